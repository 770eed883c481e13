-- Written for this claim: several texts in one.
import Derived.Test.YtlokmdjhpaimbaaDoorQx37
import Derived.Test.YtlokmdjhpaimbaaDoorQx38
import Derived.Test.YtlokmdjhpaimbaaDoorQx41
import Derived.Test.YtlokmdjhpaimbaaDoorQx42
import Derived.Test.YtlokmdjhpaimbaaDoorHCore
import Derived.Test.YtlokmdjhpaimbaaDoorPCoreFix
import Derived.Deep.RegionWith
import Derived.Test.YtlokmdjhpaimbaaDoorRows
import Derived.Test.YtlokmdjhpaimbaaDoorQx0
import Derived.Deep.Slices
import Derived.ProofKit
import Derived.OpenShut
import Derived.Test.YtlokmdjhpaimbaaDoorQx1
import Derived.Lib.LaidTab
import Derived.Lib.ItoaNum
import Derived.LaidLaws
import Derived.LaidMore
import Derived.Stop.Joined
import Derived.Stop.LaidErr
import Derived.Lay
import Derived.WideShapes
-- Written for this claim.
namespace Go.Proofs.YtlokmdjhpaimbaaDoor.Pure
open Go Go.RowKit Go.Proofs.YtlokmdjhpaimbaaDoor.Q Go.Proofs.YtlokmdjhpaimbaaDoorW.PrintWords Go.Proofs.YtlokmdjhpaimbaaDoorW.PrintLast Go.Proofs.YtlokmdjhpaimbaaDoorW.PrintMore
open HCore
namespace CoreEv
theorem wrap_small {n : Int} (h0 : -9223372036854775808 ≤ n) (h1 : n < 9223372036854775808) : wrap64 n = n := by
  unfold wrap64; omega
theorem rd_at (l : List S24) (i : Nat) (t : S24) (h : l[i]? = some t) : rd_T24 l (i : Int) = t := by
  unfold rd_T24
  rw [Int.toNat_natCast, List.getD_eq_getElem?_getD, h]; rfl
theorem at_drop {l r : List T} {i : Nat} {x : T} (h : l.drop i = x :: r) : l[i]? = some x ∧ i < l.length ∧ l.drop (i + 1) = r := by
  have h0 : l[i]? = some x := by have := congrArg (fun l => l[0]?) h; simpa using this
  exact ⟨h0, (List.getElem?_eq_some_iff.1 h0).1, by rw [← List.drop_drop, h]; rfl⟩
theorem size_get {l : List T} {x : T} (h : x ∈ l) : size x ≤ sizes l := by
  induction l with
  | nil => cases h
  | cons y r ih =>
    simp only [sizes]
    rcases List.mem_cons.1 h with rfl | h
    · omega
    · have := ih h; omega
theorem size_pos : ∀ x : T, 1 ≤ size x
  | ⟨_, _, _, _⟩ => by simp only [size]; omega
theorem len_sizes : ∀ l : List T, l.length ≤ sizes l
  | [] => Nat.le_refl _
  | x :: r => by have := len_sizes r; have := size_pos x; simp only [sizes, List.length_cons]; omega
mutual
theorem height_size : ∀ x : T, height x ≤ size x
  | ⟨_, _, _, l⟩ => by have := heights_sizes l; simp only [height, size]; omega
theorem heights_sizes : ∀ l : List T, heights l ≤ sizes l
  | [] => Nat.le_refl _
  | x :: r => by have := height_size x; have := heights_sizes r; simp only [heights, sizes]; omega
end
mutual
theorem size_wt : ∀ x : T, size x ≤ wt x
  | ⟨_, _, _, l⟩ => by have := sizes_wts l; simp only [size, wt]; omega
theorem sizes_wts : ∀ l : List T, sizes l ≤ wts l
  | [] => Nat.le_refl _
  | x :: r => by have := size_wt x; have := sizes_wts r; simp only [sizes, wts]; omega
end
theorem size_loop (l : List T) (hl : l.length ≤ 1000000000) (H : ∀ x ∈ l, Ev (fun k => core_Size.f k x.f0 x.f1 x.f2 x.f3) (size x : Int)) : ∀ (r : List T) (i acc : Nat), l.drop i = r → acc + sizes r ≤ 2000000000 → Ev (fun k => core_Size.l0 k acc l l.length i) ((acc + sizes r : Nat) : Int)
  | [], i, acc, h, hb => by
    have := List.drop_eq_nil_iff.1 h
    refine Ev.step (f := fun _ => some _) (fun k => ?_) (Ev.now _)
    rw [core_Size.l0, if_neg (by omega)]; simp [sizes]
  | x :: r, i, acc, h, hb => by
    obtain ⟨h0, hi, hn⟩ := at_drop h
    simp only [sizes] at hb
    refine Ev.step (f := fun k => (core_Size.f k x.f0 x.f1 x.f2 x.f3).bind fun t => core_Size.l0 k (wrap64 (acc + t)) l l.length (wrap64 (i + 1))) (fun k => ?_) (Ev.bind (H x (List.mem_of_getElem? h0)) ?_)
    · rw [core_Size.l0, if_pos (by omega), if_pos (by omega), if_pos (by omega), rd_at l i x h0]
    · rw [wrap_small (by omega) (by omega), wrap_small (by omega) (by omega)]
      have ih := size_loop l hl H r (i + 1) (acc + size x) hn (by omega)
      have e1 : ((acc : Int) + (size x : Int)) = ((acc + size x : Nat) : Int) := by omega
      have e2 : ((i : Int) + 1) = ((i + 1 : Nat) : Int) := by omega
      rw [e1, e2]
      have e3 : acc + sizes (x :: r) = acc + size x + sizes r := by simp only [sizes]; omega
      rw [e3]; exact ih
theorem size_ev : ∀ (n : Nat) (x : T), height x ≤ n → size x ≤ 1000000000 → Ev (fun k => core_Size.f k x.f0 x.f1 x.f2 x.f3) (size x : Int)
  | 0, x, hn, _ => by cases x; simp only [height] at hn; omega
  | n + 1, x, hn, hs => by
    have hh : height x = heights x.f3 + 1 := by cases x; rfl
    have hz : size x = sizes x.f3 + 1 := by cases x; rfl
    have H : ∀ y ∈ x.f3, Ev (fun k => core_Size.f k y.f0 y.f1 y.f2 y.f3) (size y : Int) := fun y hy => size_ev n y (by have := height_get hy; omega) (by have := size_get hy; omega)
    refine Ev.step (f := fun k => core_Size.l0 k 1 x.f3 x.f3.length 0) (fun k => by rw [core_Size.f]) ?_
    have := size_loop x.f3 (by have := len_sizes x.f3; omega) H x.f3 0 1 rfl (by omega)
    rw [hz]
    have e : sizes x.f3 + 1 = 1 + sizes x.f3 := by omega
    rw [e]; exact this
theorem mx_nat (a b : Nat) : mx (a : Int) (b : Int) = ((max a b : Nat) : Int) := by
  unfold mx; omega
theorem depth_loop (l : List T) (hl : l.length ≤ 1000000000) (H : ∀ x ∈ l, Ev (fun k => core_Depth.f k x.f0 x.f1 x.f2 x.f3) (height x : Int)) : ∀ (r : List T) (i acc : Nat), l.drop i = r → acc ≤ 1000000000 → heights r ≤ 1000000000 → Ev (fun k => core_Depth.l0 k acc l l.length i) ((max acc (heights r) + 1 : Nat) : Int)
  | [], i, acc, h, ha, hb => by
    have := List.drop_eq_nil_iff.1 h
    refine Ev.step (f := fun _ => some _) (fun k => ?_) (Ev.now _)
    rw [core_Depth.l0, if_neg (by omega), wrap_small (by omega) (by omega)]; simp [heights]
  | x :: r, i, acc, h, ha, hb => by
    obtain ⟨h0, hi, hn⟩ := at_drop h
    simp only [heights] at hb
    refine Ev.step (f := fun k => (core_Depth.f k x.f0 x.f1 x.f2 x.f3).bind fun t => core_Depth.l0 k (mx acc t) l l.length (wrap64 (i + 1))) (fun k => ?_) (Ev.bind (H x (List.mem_of_getElem? h0)) ?_)
    · rw [core_Depth.l0, if_pos (by omega), if_pos (by omega), if_pos (by omega), rd_at l i x h0]
    · rw [wrap_small (by omega) (by omega), mx_nat]
      have ih := depth_loop l hl H r (i + 1) (max acc (height x)) hn (by omega) (by omega)
      have e2 : ((i : Int) + 1) = ((i + 1 : Nat) : Int) := by omega
      rw [e2]
      have e3 : max acc (heights (x :: r)) = max (max acc (height x)) (heights r) := by simp only [heights]; omega
      rw [e3]; exact ih
theorem depth_ev : ∀ (n : Nat) (x : T), height x ≤ n → size x ≤ 1000000000 → Ev (fun k => core_Depth.f k x.f0 x.f1 x.f2 x.f3) (height x : Int)
  | 0, x, hn, _ => by cases x; simp only [height] at hn; omega
  | n + 1, x, hn, hs => by
    have hh : height x = heights x.f3 + 1 := by cases x; rfl
    have hz : size x = sizes x.f3 + 1 := by cases x; rfl
    have H : ∀ y ∈ x.f3, Ev (fun k => core_Depth.f k y.f0 y.f1 y.f2 y.f3) (height y : Int) := fun y hy => depth_ev n y (by have := height_get hy; omega) (by have := size_get hy; omega)
    refine Ev.step (f := fun k => core_Depth.l0 k 0 x.f3 x.f3.length 0) (fun k => by rw [core_Depth.f]) ?_
    have hhs := heights_sizes x.f3
    have := depth_loop x.f3 (by have := len_sizes x.f3; omega) H x.f3 0 0 rfl (by omega) (by omega)
    rw [hh]
    have e : heights x.f3 + 1 = max 0 (heights x.f3) + 1 := by omega
    rw [e]; exact this
/-- Small ends. -/
theorem few_loop (x : T) (hl : x.f3.length ≤ 1000000000) (deep : Int) (hd : -1000000 ≤ deep ∧ deep ≤ 1000000) (H : ∀ y ∈ x.f3, ∀ left dp : Int, -1000000 ≤ left → left ≤ 1000000 → -1000000 ≤ dp → dp ≤ 1000000 → ∃ r : Int, -1 ≤ r ∧ r ≤ 1000000 ∧ Ev (fun k => gossamerref06_few.f k y.f0 y.f1 y.f2 y.f3 left dp) r) (hd1 : 1 ≤ deep) :
    ∀ (r : List T) (i : Nat) (left : Int), x.f3.drop i = r → 0 ≤ left → left ≤ 1000000 → ∃ q : Int, -1 ≤ q ∧ q ≤ 1000000 ∧ Ev (fun k => gossamerref06_few.l0 k left deep i x.f0 x.f1 x.f2 x.f3) q
  | [], i, left, h, h0, h1 => by
    have := List.drop_eq_nil_iff.1 h
    refine ⟨left, by omega, h1, Ev.step (f := fun _ => some _) (fun k => ?_) (Ev.now _)⟩
    rw [gossamerref06_few.l0, if_neg (by omega)]
  | y :: r, i, left, h, h0, h1 => by
    obtain ⟨hg, hi, hn⟩ := at_drop h
    obtain ⟨q, hq0, hq1, hev⟩ := H y (List.mem_of_getElem? hg) left (deep - 1) (by omega) h1 (by omega) (by omega)
    by_cases hneg : q < 0
    · refine ⟨-1, by omega, by omega, Ev.step (f := fun k => (gossamerref06_few.f k y.f0 y.f1 y.f2 y.f3 left (deep - 1)).bind fun t => if t < 0 then some (-1) else gossamerref06_few.l0 k t deep (wrap64 (i + 1)) x.f0 x.f1 x.f2 x.f3) (fun k => ?_) (Ev.bind hev ?_)⟩
      · rw [gossamerref06_few.l0, if_pos (by omega), if_pos (by omega), rd_at _ i y hg, wrap_small (n := deep - 1) (by omega) (by omega)]
      · simp only [hneg, if_true]; exact Ev.now _
    · obtain ⟨q2, a, b, hev2⟩ := few_loop x hl deep hd H hd1 r (i + 1) q hn (by omega) hq1
      refine ⟨q2, a, b, Ev.step (f := fun k => (gossamerref06_few.f k y.f0 y.f1 y.f2 y.f3 left (deep - 1)).bind fun t => if t < 0 then some (-1) else gossamerref06_few.l0 k t deep (wrap64 (i + 1)) x.f0 x.f1 x.f2 x.f3) (fun k => ?_) (Ev.bind hev ?_)⟩
      · rw [gossamerref06_few.l0, if_pos (by omega), if_pos (by omega), rd_at _ i y hg, wrap_small (n := deep - 1) (by omega) (by omega)]
      · simp only [hneg, if_false]
        rw [wrap_small (by omega) (by omega)]
        exact hev2
theorem few_ev : ∀ (n : Nat) (x : T), height x ≤ n → size x ≤ 1000000000 → ∀ left dp : Int, -1000000 ≤ left → left ≤ 1000000 → -1000000 ≤ dp → dp ≤ 1000000 → ∃ r : Int, -1 ≤ r ∧ r ≤ 1000000 ∧ Ev (fun k => gossamerref06_few.f k x.f0 x.f1 x.f2 x.f3 left dp) r
  | 0, x, hn, _, _, _, _, _, _, _ => by cases x; simp only [height] at hn; omega
  | n + 1, x, hn, hs, left, dp, h0, h1, h2, h3 => by
    have hh : height x = heights x.f3 + 1 := by cases x; rfl
    have hz : size x = sizes x.f3 + 1 := by cases x; rfl
    by_cases hc : left < 1
    · refine ⟨-1, by omega, by omega, Ev.step (f := fun k => gossamerref06_few.j0 k left dp true x.f0 x.f1 x.f2 x.f3) (fun k => by rw [gossamerref06_few.f, if_pos hc]) (Ev.step (f := fun _ => some (-1)) (fun k => by rw [gossamerref06_few.j0, if_pos rfl]) (Ev.now _))⟩
    · by_cases hc2 : dp < 1
      · refine ⟨-1, by omega, by omega, Ev.step (f := fun k => gossamerref06_few.j0 k left dp true x.f0 x.f1 x.f2 x.f3) (fun k => by rw [gossamerref06_few.f, if_neg hc, decide_eq_true hc2]) (Ev.step (f := fun _ => some (-1)) (fun k => by rw [gossamerref06_few.j0, if_pos rfl]) (Ev.now _))⟩
      · obtain ⟨q, a, b, hev⟩ := few_loop x (by have := len_sizes x.f3; omega) dp ⟨h2, h3⟩ (fun y hy l d => few_ev n y (by have := height_get hy; omega) (by have := size_get hy; omega) l d) (by omega) x.f3 0 (left - 1) rfl (by omega) (by omega)
        refine ⟨q, a, b, Ev.step (f := fun k => gossamerref06_few.j0 k left dp false x.f0 x.f1 x.f2 x.f3) (fun k => by rw [gossamerref06_few.f, if_neg hc, decide_eq_false hc2]) (Ev.step (f := fun k => gossamerref06_few.l0 k (left - 1) dp 0 x.f0 x.f1 x.f2 x.f3) (fun k => by rw [gossamerref06_few.j0, if_neg (by simp), wrap_small (by omega) (by omega)]) hev)⟩
theorem small_some (x : T) (hs : size x ≤ 1000000000) (most : Int) (h0 : 0 ≤ most) (h1 : most ≤ 1000000) : ∃ k b, gossamerref06_Small.f k x.f0 x.f1 x.f2 x.f3 most = some b := by
  obtain ⟨r, _, _, hev⟩ := few_ev (height x) x (Nat.le_refl _) hs most 600 (by omega) h1 (by omega) (by omega)
  obtain ⟨k, hk⟩ := hev.rounds
  refine ⟨k, decide (r ≥ 0), ?_⟩
  unfold gossamerref06_Small.f
  rw [hk]; rfl
end CoreEv
end Go.Proofs.YtlokmdjhpaimbaaDoor.Pure

-- Written for this claim.
namespace Go.Proofs.YtlokmdjhpaimbaaDoor.Pure
open Go Go.RowKit Go.Proofs.YtlokmdjhpaimbaaDoor.Q
open HCore
namespace CoreMono
mutual
theorem may_mono : ∀ (x : T) (a b : Int), a ≤ b → may x a = true → may x b = true
  | ⟨k, n, s, l⟩, a, b, hab, h => by
    simp only [may] at h ⊢
    split
    · rename_i hk
      simp only [hk, if_true, Bool.and_eq_true, decide_eq_true_eq] at h ⊢
      exact ⟨h.1, by omega⟩
    · rename_i h1
      rw [if_neg h1] at h
      split
      · rename_i hk
        simp only [hk, if_true, Bool.and_eq_true, decide_eq_true_eq] at h ⊢
        exact ⟨h.1, by omega⟩
      · rename_i h7
        rw [if_neg h7] at h
        split
        · rename_i hk
          simp only [hk, if_true, Bool.and_eq_true, decide_eq_true_eq] at h ⊢
          exact ⟨h.1, by omega⟩
        · rename_i h9
          rw [if_neg h9] at h
          split
          · rename_i hk
            simp only [hk, if_true, Bool.and_eq_true, decide_eq_true_eq] at h ⊢
            exact ⟨⟨h.1.1, by omega⟩, each_mono l (a + 1) (b + 1) (by omega) h.2⟩
          · rename_i h2
            rw [if_neg h2] at h
            split
            · rename_i hk
              simp only [hk, if_true, Bool.and_eq_true, decide_eq_true_eq] at h ⊢
              exact ⟨h.1, each_mono l a b hab h.2⟩
            · rename_i h3
              rw [if_neg h3] at h
              split
              · rename_i hk
                simp only [hk, if_true, Bool.and_eq_true, decide_eq_true_eq] at h ⊢
                exact ⟨h.1, each_mono l a b hab h.2⟩
              · rename_i h8
                rw [if_neg h8] at h
                split
                · rename_i hk
                  simp only [hk, if_true, Bool.and_eq_true, decide_eq_true_eq] at h ⊢
                  exact ⟨⟨h.1.1, by omega⟩, each_mono l a b hab h.2⟩
                · rename_i h4
                  rw [if_neg h4] at h
                  split
                  · rename_i hk
                    simp only [hk, if_true, Bool.and_eq_true, decide_eq_true_eq] at h ⊢
                    exact ⟨h.1, case_mono l a b hab h.2⟩
                  · rename_i h5
                    rw [if_neg h5] at h; cases h
theorem each_mono : ∀ (l : List T) (a b : Int), a ≤ b → each l a = true → each l b = true
  | [], _, _, _, _ => rfl
  | x :: r, a, b, hab, h => by
    simp only [each, Bool.and_eq_true] at h ⊢
    exact ⟨may_mono x a b hab h.1, each_mono r a b hab h.2⟩
theorem case_mono : ∀ (l : List T) (a b : Int), a ≤ b → mayCase l a = true → mayCase l b = true
  | [], _, _, _, h => by simp [mayCase] at h
  | x :: r, a, b, hab, h => by
    simp only [mayCase, Bool.and_eq_true] at h ⊢
    exact ⟨⟨⟨may_mono x a b hab h.1.1.1, alts_mono r a b [] hab h.1.1.2⟩, h.1.2⟩, h.2⟩
theorem alts_mono : ∀ (l : List T) (a b : Int) (seen : List T), a ≤ b → alts l a seen = true → alts l b seen = true
  | [], _, _, _, _, _ => rfl
  | ⟨k, n, s, l⟩ :: r, a, b, seen, hab, h => by
    simp only [alts, Bool.and_eq_true] at h ⊢
    exact ⟨⟨⟨h.1.1.1, each_mono l (a + n) (b + n) (by omega) h.1.1.2⟩, h.1.2⟩, alts_mono r a b _ hab h.2⟩
end
end CoreMono
end Go.Proofs.YtlokmdjhpaimbaaDoor.Pure

-- Written for this claim.
namespace Go.Proofs.YtlokmdjhpaimbaaDoor.Pure
open Go Go.RowKit Go.Lib Go.Proofs Go.Proofs.YtlokmdjhpaimbaaDoor.Q Go.Proofs.YtlokmdjhpaimbaaDoorW.PrintWords Go.Proofs.YtlokmdjhpaimbaaDoorW.PrintLast Go.Proofs.YtlokmdjhpaimbaaDoorW.PrintMore
open HCore
/-! What is made of two terms may be if they may (for CoreBuilt). -/
namespace CoreBt
set_option linter.unusedSimpArgs false
def altB (b : T) : T := ⟨6, 0, ⟨#[65]⟩, [b]⟩
def tA (a b : T) : T := ⟨3, 0, ⟨#[]⟩, [a, b]⟩
def tC (a b : T) : T := ⟨4, 0, ⟨#[65]⟩, [a, b]⟩
def tO (a b : T) : T := ⟨8, 0, ⟨#[60]⟩, [a, b]⟩
def tK (a b : T) : T := ⟨5, 0, ⟨#[]⟩, [a, altB b]⟩
def lst (a b : T) : List T := [tA a b, tC a b, tO a b, tK a b]
def lamB (a : T) : T := ⟨2, 0, ⟨#[]⟩, [a]⟩
def varB (n : Int) : T := ⟨1, n, ⟨#[]⟩, []⟩
theorem con_A : con ⟨#[65]⟩ = true := by decide +kernel
theorem oper_lt : oper ⟨#[60]⟩ = true := by decide +kernel
theorem may_A (a b : T) (f : Int) : may (tA a b) f = (may a f && may b f) := by simp [tA, may, bare, each]
theorem may_C (a b : T) (f : Int) (h : 0 ≤ f) : may (tC a b) f = (may a f && may b f) := by simp [tC, may, bare, each, con_A, h]
theorem may_O (a b : T) (f : Int) : may (tO a b) f = (may a f && may b f) := by simp [tO, may, bare, each, oper_lt]
theorem may_K (a b : T) (f : Int) : may (tK a b) f = (may a f && may b f) := by simp [tK, altB, may, bare, each, mayCase, alts, con_A]
theorem may_lst (a b : T) (f : Int) (h : 0 ≤ f) : ∀ x ∈ lst a b, may x f = (may a f && may b f) := by
  intro x hx
  simp only [lst, List.mem_cons, List.mem_nil_iff, or_false] at hx
  rcases hx with rfl | rfl | rfl | rfl
  · exact may_A a b f
  · exact may_C a b f h
  · exact may_O a b f
  · exact may_K a b f
theorem may_var (n f : Int) : may (varB n) f = (decide (0 ≤ n) && decide (n < f)) := by
  have e : decide (n ≤ f - 1) = decide (n < f) := decide_eq_decide.2 (by omega)
  simp [varB, may, e]
theorem may_alt (b : T) (f : Int) : may (altB b) f = false := rfl
theorem may_lam (a : T) (f : Int) (h : 0 ≤ f) : may (lamB a) f = may a (f + 1) := by simp [lamB, may, bare, each, h]
theorem wt_lst (a b : T) : ∀ x ∈ lst a b, wt x ≤ wt a + wt b + 4 := by
  have h1 : (⟨#[65]⟩ : ByteArray).size = 1 := rfl
  have h2 : (⟨#[60]⟩ : ByteArray).size = 1 := rfl
  have h0 : (⟨#[]⟩ : ByteArray).size = 0 := rfl
  intro x hx
  simp only [lst, List.mem_cons, List.mem_nil_iff, or_false] at hx
  rcases hx with rfl | rfl | rfl | rfl <;> simp only [tA, tC, tO, tK, altB, wt, wts, h0, h1, h2] <;> omega
theorem height_lst (a b : T) : ∀ x ∈ lst a b, height x ≤ height a + height b + 2 := by
  intro x hx
  simp only [lst, List.mem_cons, List.mem_nil_iff, or_false] at hx
  rcases hx with rfl | rfl | rfl | rfl <;> simp only [tA, tC, tO, tK, altB, height, heights] <;> omega
theorem wt_lam (a : T) : wt (lamB a) = wt a + 1 := by
  have h0 : (⟨#[]⟩ : ByteArray).size = 0 := rfl
  simp only [lamB, wt, wts, h0]; omega
theorem height_lam (a : T) : height (lamB a) = height a + 1 := by simp [lamB, height, heights]
theorem wt_alt (a : T) : wt (altB a) = wt a + 2 := by
  have h0 : (⟨#[65]⟩ : ByteArray).size = 1 := rfl
  simp only [altB, wt, wts, h0]; omega
theorem height_alt (a : T) : height (altB a) = height a + 1 := by simp [altB, height, heights]
theorem C4 {W : World} {x y z u : T} {cs ds es fs : List Value} (h : k24.K W x cs) (h2 : k24.K W y ds) (h3 : k24.K W z es) (h4 : k24.K W u fs) : Kd.C k24 (W.alloc (.cells (cs ++ ds ++ es ++ fs).toArray 24)) (some ⟨W.heap.size, 0, none⟩) 4 [x, y, z, u] := by
  have hb := below_alloc (Below.refl W.heap.size W) (.cells (cs ++ ds ++ es ++ fs).toArray 24)
  have hn := blk_new W (.cells (cs ++ ds ++ es ++ fs).toArray 24)
  have hl : cs.length = 4 := k24.K_len h
  have hl2 : ds.length = 4 := k24.K_len h2
  have hl3 : es.length = 4 := k24.K_len h3
  have add : ∀ i m : Nat, (⟨W.heap.size, 0, none⟩ : Addr).add (m + i) = ⟨W.heap.size, m + i, none⟩ := by intro i m; simp only [Addr.add]; split <;> simp_all
  refine ⟨rfl, by decide, fun _ => ⟨_, rfl, fun j p hj => ?_⟩⟩
  match j, hj with
  | 0, hj =>
    obtain rfl : x = p := by simpa using hj
    refine ⟨cs, k24.K_len h, k24.K_below hb h, fun i u hi => ?_⟩
    have := blk_cell hn i
    have hlt := (List.getElem?_eq_some_iff.1 hi).1
    rw [show 0 * k24.sz + i = 0 + i from rfl, add, Nat.zero_add, this]
    simpa [List.getElem?_append_left hlt, List.append_assoc] using hi
  | 1, hj =>
    obtain rfl : y = p := by simpa using hj
    refine ⟨ds, k24.K_len h2, k24.K_below hb h2, fun i u hi => ?_⟩
    have := blk_cell hn (4 + i)
    have hlt := (List.getElem?_eq_some_iff.1 hi).1
    rw [show 1 * k24.sz + i = 4 + i from rfl, add, this]
    simp [List.getElem?_append_right, List.getElem?_append_left hlt, hl, hi, List.append_assoc]
  | 2, hj =>
    obtain rfl : z = p := by simpa using hj
    refine ⟨es, k24.K_len h3, k24.K_below hb h3, fun i u hi => ?_⟩
    have := blk_cell hn (8 + i)
    have hlt := (List.getElem?_eq_some_iff.1 hi).1
    rw [show 2 * k24.sz + i = 8 + i from rfl, add, this]
    simp [List.getElem?_append_right, List.getElem?_append_left hlt, hl, hl2, hi, List.append_assoc, show 8 + i - 4 - 4 = i by omega, show 4 ≤ 8 + i by omega, show 4 ≤ 8 + i - 4 by omega]
  | 3, hj =>
    obtain rfl : u = p := by simpa using hj
    refine ⟨fs, k24.K_len h4, k24.K_below hb h4, fun i u hi => ?_⟩
    have := blk_cell hn (12 + i)
    rw [show 3 * k24.sz + i = 12 + i from rfl, add, this]
    simp [List.getElem?_append_right, hl, hl2, hl3, hi, List.append_assoc, show 12 + i - 4 - 4 - 4 = i by omega, show 4 ≤ 12 + i by omega, show 4 ≤ 12 + i - 4 by omega, show 4 ≤ 12 + i - 4 - 4 by omega]
end CoreBt
end Go.Proofs.YtlokmdjhpaimbaaDoor.Pure

-- Written for this claim.
namespace Go.Proofs.YtlokmdjhpaimbaaDoor.Pure
open Go Go.RowKit Go.Lib Go.Proofs Go.Proofs.YtlokmdjhpaimbaaDoor.Q Go.Proofs.YtlokmdjhpaimbaaDoorW.PrintWords Go.Proofs.YtlokmdjhpaimbaaDoorW.PrintLast Go.Proofs.YtlokmdjhpaimbaaDoorW.PrintMore
open HCore CoreBt
set_option linter.unusedVariables false
set_option linter.unusedSimpArgs false
set_option maxRecDepth 100000 in
set_option maxHeartbeats 16000000 in
theorem CoreBuilt_walk {w : World} (a : T) (Aa : Option Addr) (ca : Nat) (hCa : Kd.C k24 w Aa a.f3.length a.f3) (hla : a.f3.length ≤ ca) (oka : Ok a) (hwa : wt a ≤ 1048576) (b : T) (Ab : Option Addr) (cb : Nat) (hCb : Kd.C k24 w Ab b.f3.length b.f3) (hlb : b.f3.length ≤ cb) (okb : Ok b) (hwb : wt b ≤ 1048576)
    (free n : Int) (htab : Lib.TabIs Tryd.prog w "internal/strconv.uint64pow10" .u64 Lib.pow10Tab) :
    Calls Tryd.prog 6 #[.agg #[.int .i64 a.f0, .int .i64 a.f1, .string a.f2, .slice Aa a.f3.length ca], .agg #[.int .i64 b.f0, .int .i64 b.f1, .string b.f2, .slice Ab b.f3.length cb], .agg #[.int .i64 free, .int .i64 n]] w fun e w' => e = .returned (.bool true) ∧ Below w.heap.size w w' := by
  have HT := Lib.hid (tabBelow_of_tabIs htab)
  clear htab
  have sza : size a ≤ 1000000000 := by have := CoreEv.size_wt a; omega
  have hga : (height a : Int) ≤ 1048576 := by have := CoreEv.height_size a; have := CoreEv.size_wt a; omega
  obtain ⟨ka, ba, hsa⟩ := CoreEv.small_some a sza 300 (by omega) (by omega)
  have Sa := Lib.hid hsa
  clear hsa
  have szb : size b ≤ 1000000000 := by have := CoreEv.size_wt b; omega
  have hgb : (height b : Int) ≤ 1048576 := by have := CoreEv.height_size b; have := CoreEv.size_wt b; omega
  obtain ⟨kb, bb, hsb⟩ := CoreEv.small_some b szb 300 (by omega) (by omega)
  have Sb := Lib.hid hsb
  clear hsb
  have hba := below_alloc (below_alloc (below_alloc (Below.refl w.heap.size w) (Obj.cells #[.int .i64 a.f0, .int .i64 a.f1, .string a.f2, .slice Aa a.f3.length ca] 24)) (Obj.cells #[.int .i64 b.f0, .int .i64 b.f1, .string b.f2, .slice Ab b.f3.length cb] 24)) (Obj.cells #[.int .i64 free, .int .i64 n] 32)
  have h1 := blk_alloc (blk_alloc (blk_new w (Obj.cells #[.int .i64 a.f0, .int .i64 a.f1, .string a.f2, .slice Aa a.f3.length ca] 24)) (Obj.cells #[.int .i64 b.f0, .int .i64 b.f1, .string b.f2, .slice Ab b.f3.length cb] 24)) (Obj.cells #[.int .i64 free, .int .i64 n] 32)
  have h2 := blk_alloc (blk_new (w.alloc (Obj.cells #[.int .i64 a.f0, .int .i64 a.f1, .string a.f2, .slice Aa a.f3.length ca] 24)) (Obj.cells #[.int .i64 b.f0, .int .i64 b.f1, .string b.f2, .slice Ab b.f3.length cb] 24)) (Obj.cells #[.int .i64 free, .int .i64 n] 32)
  have h3 := blk_new ((w.alloc (Obj.cells #[.int .i64 a.f0, .int .i64 a.f1, .string a.f2, .slice Aa a.f3.length ca] 24)).alloc (Obj.cells #[.int .i64 b.f0, .int .i64 b.f1, .string b.f2, .slice Ab b.f3.length cb] 24)) (Obj.cells #[.int .i64 free, .int .i64 n] 32)
  rw [World.size_alloc] at h2
  rw [World.size_alloc, World.size_alloc] at h3
  go_enter Tryd.func6, Tryd.ntmps6
  go_upto_region 1 with (fail)
  generalize hwq : ((w.alloc (Obj.cells #[.int .i64 a.f0, .int .i64 a.f1, .string a.f2, .slice Aa a.f3.length ca] 24)).alloc (Obj.cells #[.int .i64 b.f0, .int .i64 b.f1, .string b.f2, .slice Ab b.f3.length cb] 24)).alloc (Obj.cells #[.int .i64 free, .int .i64 n] 32) = wq at hba h1 h2 h3 ⊢
  clear hwq
  have HB := Lib.hid hba; have Ba := Lib.hid h1; have Bb := Lib.hid h2; have Bx := Lib.hid h3
  have Ca := Lib.hid (Kd.C_below hCa hba)
  have Cb := Lib.hid (Kd.C_below hCb hba)
  clear hba h1 h2 h3 hCa hCb
  have a0 := blk_cell Ba.out 0
  have a1 := blk_cell Ba.out 1
  have a2 := blk_cell Ba.out 2
  have a3 := blk_cell Ba.out 3
  have b0 := blk_cell Bb.out 0
  have b1 := blk_cell Bb.out 1
  have b2 := blk_cell Bb.out 2
  have b3 := blk_cell Bb.out 3
  have x0 := blk_cell Bx.out 0; have x1 := blk_cell Bx.out 1
  simp only [List.getElem?_toArray, List.getElem?_cons_zero, List.getElem?_cons_succ] at x0 x1 a0 a1 a2 a3 b0 b1 b2 b3
  go_wp2_with fail
  refine (CoreFix.fixed_any _ (HT.out.on HB.out).here).mono ?_
  rintro e w5 ⟨rfl, hb⟩
  have n0_ := Lib.hid (below_step HB.out hb); have nX := Lib.hid (blk_below Bx.out hb)
  have nCa := Lib.hid (Kd.C_below Ca.out hb); have nBa := Lib.hid (blk_below Ba.out hb)
  have nCb := Lib.hid (Kd.C_below Cb.out hb); have nBb := Lib.hid (blk_below Bb.out hb)
  clear HB Bx Ca Ba Cb Bb hb a0 a1 a2 a3 b0 b1 b2 b3 x0 x1
  have HB := n0_; have Bx := nX
  have Ca := nCa; have Ba := nBa
  have Cb := nCb; have Bb := nBb
  clear n0_ nX nCa nBa nCb nBb
  have a0 := blk_cell Ba.out 0
  have a1 := blk_cell Ba.out 1
  have a2 := blk_cell Ba.out 2
  have a3 := blk_cell Ba.out 3
  have b0 := blk_cell Bb.out 0
  have b1 := blk_cell Bb.out 1
  have b2 := blk_cell Bb.out 2
  have b3 := blk_cell Bb.out 3
  have x0 := blk_cell Bx.out 0; have x1 := blk_cell Bx.out 1
  simp only [List.getElem?_toArray, List.getElem?_cons_zero, List.getElem?_cons_succ] at x0 x1 a0 a1 a2 a3 b0 b1 b2 b3
  go_upto_region 3 with (fail)
  refine wp_region_held_drew (S := (fun w' => w'.cell? ⟨w.heap.size + 1 + 1, 0, none⟩ = some (.int .i64 free) ∧ w'.cell? ⟨w.heap.size + 1 + 1, 1, none⟩ = some (.int .i64 n) ∧ Below w5.heap.size w5 w')) (by kernel_rfl) (by (try dsimp only); exact CoreText.keep2 ⟨x0, x1, Below.refl _ _⟩ (below_drew1 (Below.refl _ _))) (fun hHeld => ?_)
  refine wpAnyH_take (i := 0) (v := ?_) rfl (by kernel_rfl) (by kernel_rfl) (by kernel_rfl) (fun _ _ _ h => h) (Or.inl ⟨by rfl, ?_⟩) (by assumption) ?_
  rotate_left 1
  · (intro w hSw; (try dsimp only at hSw); (try simp only [List.getElem_toArray, List.getElem_cons_succ, List.getElem_cons_zero]); go_simp; (try with_reducible rfl))
  (try simp only [Act.put, List.getElem_toArray, List.getElem_cons_succ, List.getElem_cons_zero, List.setIfInBounds_toArray, List.set_cons_zero, List.set_cons_succ])
  refine wpAnyH_take (i := 1) (v := ?_) rfl (by kernel_rfl) (by kernel_rfl) (by kernel_rfl) (fun _ _ _ h => h) (Or.inl ⟨by rfl, ?_⟩) (by assumption) ?_
  rotate_left 1
  · (intro w hSw; (try dsimp only at hSw); (try simp only [List.getElem_toArray, List.getElem_cons_succ, List.getElem_cons_zero]); go_simp; (try with_reducible rfl))
  (try simp only [Act.put, List.getElem_toArray, List.getElem_cons_succ, List.getElem_cons_zero, List.setIfInBounds_toArray, List.set_cons_zero, List.set_cons_succ])
  refine wpAnyH_take (i := 2) (v := ?_) rfl (by kernel_rfl) (by kernel_rfl) (by kernel_rfl) (fun _ _ _ h => h) (Or.inl ⟨by rfl, ?_⟩) (by assumption) ?_
  rotate_left 1
  · (intro w hSw; (try dsimp only at hSw); (try simp only [List.getElem_toArray, List.getElem_cons_succ, List.getElem_cons_zero]); go_simp; (try with_reducible rfl))
  (try simp only [Act.put, List.getElem_toArray, List.getElem_cons_succ, List.getElem_cons_zero, List.setIfInBounds_toArray, List.set_cons_zero, List.set_cons_succ])
  refine wpAnyH_take (i := 3) (v := ?_) rfl (by kernel_rfl) (by kernel_rfl) (by kernel_rfl) (fun _ _ _ h => h) (Or.inl ⟨by rfl, ?_⟩) (by assumption) ?_
  rotate_left 1
  · (intro w hSw; (try dsimp only at hSw); (try simp only [List.getElem_toArray, List.getElem_cons_succ, List.getElem_cons_zero]); go_simp; (try with_reducible rfl))
  (try simp only [Act.put, List.getElem_toArray, List.getElem_cons_succ, List.getElem_cons_zero, List.setIfInBounds_toArray, List.set_cons_zero, List.set_cons_succ])
  refine wpAnyH_take (i := 4) (v := ?_) rfl (by kernel_rfl) (by kernel_rfl) (by kernel_rfl) (fun _ _ _ h => h) (Or.inl ⟨by rfl, ?_⟩) (by assumption) ?_
  rotate_left 1
  · (intro w hSw; (try dsimp only at hSw); (try simp only [List.getElem_toArray, List.getElem_cons_succ, List.getElem_cons_zero]); go_simp; (try with_reducible rfl))
  (try simp only [Act.put, List.getElem_toArray, List.getElem_cons_succ, List.getElem_cons_zero, List.setIfInBounds_toArray, List.set_cons_zero, List.set_cons_succ])
  refine wpAnyH_take (i := 5) (v := ?_) rfl (by kernel_rfl) (by kernel_rfl) (by kernel_rfl) (fun _ _ _ h => h) (Or.inl ⟨by rfl, ?_⟩) (by assumption) ?_
  rotate_left 1
  · (intro w hSw; (try dsimp only at hSw); (try simp only [List.getElem_toArray, List.getElem_cons_succ, List.getElem_cons_zero]); go_simp; (try with_reducible rfl))
  (try simp only [Act.put, List.getElem_toArray, List.getElem_cons_succ, List.getElem_cons_zero, List.setIfInBounds_toArray, List.set_cons_zero, List.set_cons_succ])
  refine wpAnyH_done (by kernel_rfl) ?_ _
  have hb := hHeld.2.2
  clear hHeld
  have n0_ := Lib.hid (below_step HB.out hb); have nX := Lib.hid (blk_below Bx.out hb)
  have nCa := Lib.hid (Kd.C_below Ca.out hb); have nBa := Lib.hid (blk_below Ba.out hb)
  have nCb := Lib.hid (Kd.C_below Cb.out hb); have nBb := Lib.hid (blk_below Bb.out hb)
  clear HB Bx Ca Ba Cb Bb hb a0 a1 a2 a3 b0 b1 b2 b3 x0 x1
  have HB := n0_; have Bx := nX
  have Ca := nCa; have Ba := nBa
  have Cb := nCb; have Bb := nBb
  clear n0_ nX nCa nBa nCb nBb
  have a0 := blk_cell Ba.out 0
  have a1 := blk_cell Ba.out 1
  have a2 := blk_cell Ba.out 2
  have a3 := blk_cell Ba.out 3
  have b0 := blk_cell Bb.out 0
  have b1 := blk_cell Bb.out 1
  have b2 := blk_cell Bb.out 2
  have b3 := blk_cell Bb.out 3
  have x0 := blk_cell Bx.out 0; have x1 := blk_cell Bx.out 1
  simp only [List.getElem?_toArray, List.getElem?_cons_zero, List.getElem?_cons_succ] at x0 x1 a0 a1 a2 a3 b0 b1 b2 b3
  go_wp2_with fail
  refine (CoreFix.fixed_any _ (HT.out.on HB.out).here).mono ?_
  rintro e w5 ⟨rfl, hb⟩
  have n0_ := Lib.hid (below_step HB.out hb); have nX := Lib.hid (blk_below Bx.out hb)
  have nCa := Lib.hid (Kd.C_below Ca.out hb); have nBa := Lib.hid (blk_below Ba.out hb)
  have nCb := Lib.hid (Kd.C_below Cb.out hb); have nBb := Lib.hid (blk_below Bb.out hb)
  clear HB Bx Ca Ba Cb Bb hb a0 a1 a2 a3 b0 b1 b2 b3 x0 x1
  have HB := n0_; have Bx := nX
  have Ca := nCa; have Ba := nBa
  have Cb := nCb; have Bb := nBb
  clear n0_ nX nCa nBa nCb nBb
  have a0 := blk_cell Ba.out 0
  have a1 := blk_cell Ba.out 1
  have a2 := blk_cell Ba.out 2
  have a3 := blk_cell Ba.out 3
  have b0 := blk_cell Bb.out 0
  have b1 := blk_cell Bb.out 1
  have b2 := blk_cell Bb.out 2
  have b3 := blk_cell Bb.out 3
  have x0 := blk_cell Bx.out 0; have x1 := blk_cell Bx.out 1
  simp only [List.getElem?_toArray, List.getElem?_cons_zero, List.getElem?_cons_succ] at x0 x1 a0 a1 a2 a3 b0 b1 b2 b3
  go_wp2_with fail
  refine (gossamerref06_Small.calls ka a.f0 a.f1 a.f2 Aa ca a.f3 300 ba _ Ca.out hla Sa.out).mono ?_
  rintro e w5 ⟨rfl, hb⟩
  have n0_ := Lib.hid (below_step HB.out hb); have nX := Lib.hid (blk_below Bx.out hb)
  have nCa := Lib.hid (Kd.C_below Ca.out hb); have nBa := Lib.hid (blk_below Ba.out hb)
  have nCb := Lib.hid (Kd.C_below Cb.out hb); have nBb := Lib.hid (blk_below Bb.out hb)
  clear HB Bx Ca Ba Cb Bb hb a0 a1 a2 a3 b0 b1 b2 b3 x0 x1
  have HB := n0_; have Bx := nX
  have Ca := nCa; have Ba := nBa
  have Cb := nCb; have Bb := nBb
  clear n0_ nX nCa nBa nCb nBb
  have a0 := blk_cell Ba.out 0
  have a1 := blk_cell Ba.out 1
  have a2 := blk_cell Ba.out 2
  have a3 := blk_cell Ba.out 3
  have b0 := blk_cell Bb.out 0
  have b1 := blk_cell Bb.out 1
  have b2 := blk_cell Bb.out 2
  have b3 := blk_cell Bb.out 3
  have x0 := blk_cell Bx.out 0; have x1 := blk_cell Bx.out 1
  simp only [List.getElem?_toArray, List.getElem?_cons_zero, List.getElem?_cons_succ] at x0 x1 a0 a1 a2 a3 b0 b1 b2 b3
  cases ba with
  | false =>
    go_wp2_with fail
    refine (CoreFix.fixed_any _ (HT.out.on HB.out).here).mono ?_
    rintro e w5 ⟨rfl, hb⟩
    have n0_ := Lib.hid (below_step HB.out hb); have nX := Lib.hid (blk_below Bx.out hb)
    have nCa := Lib.hid (Kd.C_below Ca.out hb); have nBa := Lib.hid (blk_below Ba.out hb)
    have nCb := Lib.hid (Kd.C_below Cb.out hb); have nBb := Lib.hid (blk_below Bb.out hb)
    clear HB Bx Ca Ba Cb Bb hb a0 a1 a2 a3 b0 b1 b2 b3 x0 x1
    have HB := n0_; have Bx := nX
    have Ca := nCa; have Ba := nBa
    have Cb := nCb; have Bb := nBb
    clear n0_ nX nCa nBa nCb nBb
    have a0 := blk_cell Ba.out 0
    have a1 := blk_cell Ba.out 1
    have a2 := blk_cell Ba.out 2
    have a3 := blk_cell Ba.out 3
    have b0 := blk_cell Bb.out 0
    have b1 := blk_cell Bb.out 1
    have b2 := blk_cell Bb.out 2
    have b3 := blk_cell Bb.out 3
    have x0 := blk_cell Bx.out 0; have x1 := blk_cell Bx.out 1
    simp only [List.getElem?_toArray, List.getElem?_cons_zero, List.getElem?_cons_succ] at x0 x1 a0 a1 a2 a3 b0 b1 b2 b3
    go_wp2_with fail
    go_ret
    exact ⟨rfl, HB.out⟩
  | true =>
    go_wp2_with fail
    refine (gossamerref06_Small.calls kb b.f0 b.f1 b.f2 Ab cb b.f3 300 bb _ Cb.out hlb Sb.out).mono ?_
    rintro e w5 ⟨rfl, hb⟩
    have n0_ := Lib.hid (below_step HB.out hb); have nX := Lib.hid (blk_below Bx.out hb)
    have nCa := Lib.hid (Kd.C_below Ca.out hb); have nBa := Lib.hid (blk_below Ba.out hb)
    have nCb := Lib.hid (Kd.C_below Cb.out hb); have nBb := Lib.hid (blk_below Bb.out hb)
    clear HB Bx Ca Ba Cb Bb hb a0 a1 a2 a3 b0 b1 b2 b3 x0 x1
    have HB := n0_; have Bx := nX
    have Ca := nCa; have Ba := nBa
    have Cb := nCb; have Bb := nBb
    clear n0_ nX nCa nBa nCb nBb
    have a0 := blk_cell Ba.out 0
    have a1 := blk_cell Ba.out 1
    have a2 := blk_cell Ba.out 2
    have a3 := blk_cell Ba.out 3
    have b0 := blk_cell Bb.out 0
    have b1 := blk_cell Bb.out 1
    have b2 := blk_cell Bb.out 2
    have b3 := blk_cell Bb.out 3
    have x0 := blk_cell Bx.out 0; have x1 := blk_cell Bx.out 1
    simp only [List.getElem?_toArray, List.getElem?_cons_zero, List.getElem?_cons_succ] at x0 x1 a0 a1 a2 a3 b0 b1 b2 b3
    cases bb with
    | false =>
      go_wp2_with fail
      refine (CoreFix.fixed_any _ (HT.out.on HB.out).here).mono ?_
      rintro e w5 ⟨rfl, hb⟩
      have n0_ := Lib.hid (below_step HB.out hb); have nX := Lib.hid (blk_below Bx.out hb)
      have nCa := Lib.hid (Kd.C_below Ca.out hb); have nBa := Lib.hid (blk_below Ba.out hb)
      have nCb := Lib.hid (Kd.C_below Cb.out hb); have nBb := Lib.hid (blk_below Bb.out hb)
      clear HB Bx Ca Ba Cb Bb hb a0 a1 a2 a3 b0 b1 b2 b3 x0 x1
      have HB := n0_; have Bx := nX
      have Ca := nCa; have Ba := nBa
      have Cb := nCb; have Bb := nBb
      clear n0_ nX nCa nBa nCb nBb
      have a0 := blk_cell Ba.out 0
      have a1 := blk_cell Ba.out 1
      have a2 := blk_cell Ba.out 2
      have a3 := blk_cell Ba.out 3
      have b0 := blk_cell Bb.out 0
      have b1 := blk_cell Bb.out 1
      have b2 := blk_cell Bb.out 2
      have b3 := blk_cell Bb.out 3
      have x0 := blk_cell Bx.out 0; have x1 := blk_cell Bx.out 1
      simp only [List.getElem?_toArray, List.getElem?_cons_zero, List.getElem?_cons_succ] at x0 x1 a0 a1 a2 a3 b0 b1 b2 b3
      go_wp2_with fail
      go_ret
      exact ⟨rfl, HB.out⟩
    | true =>
      rcases Classical.em (free < 0) with q | q
      · have d1 := decide_eq_true q
        have Qd1 := Lib.hid q
        clear q
        go_wp2_with fail
        refine (CoreFix.fixed_any _ (HT.out.on HB.out).here).mono ?_
        rintro e w5 ⟨rfl, hb⟩
        have n0_ := Lib.hid (below_step HB.out hb); have nX := Lib.hid (blk_below Bx.out hb)
        have nCa := Lib.hid (Kd.C_below Ca.out hb); have nBa := Lib.hid (blk_below Ba.out hb)
        have nCb := Lib.hid (Kd.C_below Cb.out hb); have nBb := Lib.hid (blk_below Bb.out hb)
        clear HB Bx Ca Ba Cb Bb hb a0 a1 a2 a3 b0 b1 b2 b3 x0 x1
        have HB := n0_; have Bx := nX
        have Ca := nCa; have Ba := nBa
        have Cb := nCb; have Bb := nBb
        clear n0_ nX nCa nBa nCb nBb
        have a0 := blk_cell Ba.out 0
        have a1 := blk_cell Ba.out 1
        have a2 := blk_cell Ba.out 2
        have a3 := blk_cell Ba.out 3
        have b0 := blk_cell Bb.out 0
        have b1 := blk_cell Bb.out 1
        have b2 := blk_cell Bb.out 2
        have b3 := blk_cell Bb.out 3
        have x0 := blk_cell Bx.out 0; have x1 := blk_cell Bx.out 1
        simp only [List.getElem?_toArray, List.getElem?_cons_zero, List.getElem?_cons_succ] at x0 x1 a0 a1 a2 a3 b0 b1 b2 b3
        go_wp2_with fail
        go_ret
        exact ⟨rfl, HB.out⟩
      · have d1 := decide_eq_false q
        have Qd1 := Lib.hid q
        clear q
        rcases Classical.em (free > 1000) with q | q
        · have d2 := decide_eq_true q
          have Qd2 := Lib.hid q
          clear q
          go_wp2_with fail
          refine (CoreFix.fixed_any _ (HT.out.on HB.out).here).mono ?_
          rintro e w5 ⟨rfl, hb⟩
          have n0_ := Lib.hid (below_step HB.out hb); have nX := Lib.hid (blk_below Bx.out hb)
          have nCa := Lib.hid (Kd.C_below Ca.out hb); have nBa := Lib.hid (blk_below Ba.out hb)
          have nCb := Lib.hid (Kd.C_below Cb.out hb); have nBb := Lib.hid (blk_below Bb.out hb)
          clear HB Bx Ca Ba Cb Bb hb a0 a1 a2 a3 b0 b1 b2 b3 x0 x1
          have HB := n0_; have Bx := nX
          have Ca := nCa; have Ba := nBa
          have Cb := nCb; have Bb := nBb
          clear n0_ nX nCa nBa nCb nBb
          have a0 := blk_cell Ba.out 0
          have a1 := blk_cell Ba.out 1
          have a2 := blk_cell Ba.out 2
          have a3 := blk_cell Ba.out 3
          have b0 := blk_cell Bb.out 0
          have b1 := blk_cell Bb.out 1
          have b2 := blk_cell Bb.out 2
          have b3 := blk_cell Bb.out 3
          have x0 := blk_cell Bx.out 0; have x1 := blk_cell Bx.out 1
          simp only [List.getElem?_toArray, List.getElem?_cons_zero, List.getElem?_cons_succ] at x0 x1 a0 a1 a2 a3 b0 b1 b2 b3
          go_wp2_with fail
          go_ret
          exact ⟨rfl, HB.out⟩
        · have d2 := decide_eq_false q
          have Qd2 := Lib.hid q
          clear q
          obtain ⟨ma, VA⟩ : ∃ q, Hid (may a free = q) := ⟨_, Lib.hid rfl⟩
          obtain ⟨mb, VB⟩ : ∃ q, Hid (may b free = q) := ⟨_, Lib.hid rfl⟩
          go_upto_region 6 with (fail)
          refine wp_region_held_drew (S := (fun w' => w'.cell? ⟨w.heap.size, 0, none⟩ = some (.int .i64 a.f0) ∧ w'.cell? ⟨w.heap.size, 1, none⟩ = some (.int .i64 a.f1) ∧ w'.cell? ⟨w.heap.size, 2, none⟩ = some (.string a.f2) ∧ w'.cell? ⟨w.heap.size, 3, none⟩ = some (.slice Aa a.f3.length ca) ∧ w'.cell? ⟨w.heap.size + 1, 0, none⟩ = some (.int .i64 b.f0) ∧ w'.cell? ⟨w.heap.size + 1, 1, none⟩ = some (.int .i64 b.f1) ∧ w'.cell? ⟨w.heap.size + 1, 2, none⟩ = some (.string b.f2) ∧ w'.cell? ⟨w.heap.size + 1, 3, none⟩ = some (.slice Ab b.f3.length cb) ∧ Below w5.heap.size w5 w')) (by kernel_rfl) (by (try dsimp only); exact CoreMay.keep8 ⟨a0, a1, a2, a3, b0, b1, b2, b3, Below.refl _ _⟩ (below_drew1 (Below.refl _ _))) (fun hHeld => ?_)
          refine wpAnyH_take (i := 0) (v := ?_) rfl (by kernel_rfl) (by kernel_rfl) (by kernel_rfl) (fun _ _ _ h => h) (Or.inl ⟨by rfl, ?_⟩) (by assumption) ?_
          rotate_left 1
          · (intro w hSw; (try dsimp only at hSw); (try simp only [List.getElem_toArray, List.getElem_cons_succ, List.getElem_cons_zero]); go_simp; (try with_reducible rfl))
          (try simp only [Act.put, List.getElem_toArray, List.getElem_cons_succ, List.getElem_cons_zero, List.setIfInBounds_toArray, List.set_cons_zero, List.set_cons_succ])
          refine wpAnyH_take (i := 1) (v := ?_) rfl (by kernel_rfl) (by kernel_rfl) (by kernel_rfl) (fun _ _ _ h => h) (Or.inl ⟨by rfl, ?_⟩) (by assumption) ?_
          rotate_left 1
          · (intro w hSw; (try dsimp only at hSw); (try simp only [List.getElem_toArray, List.getElem_cons_succ, List.getElem_cons_zero]); go_simp; (try with_reducible rfl))
          (try simp only [Act.put, List.getElem_toArray, List.getElem_cons_succ, List.getElem_cons_zero, List.setIfInBounds_toArray, List.set_cons_zero, List.set_cons_succ])
          refine wpAnyH_take (i := 3) (v := ?_) rfl (by kernel_rfl) (by kernel_rfl) (by kernel_rfl) (fun _ _ _ h => h) (Or.inl ⟨by rfl, ?_⟩) (by assumption) ?_
          rotate_left 1
          · (intro w hSw; (try dsimp only at hSw); (try simp only [List.getElem_toArray, List.getElem_cons_succ, List.getElem_cons_zero]); go_simp; (try with_reducible rfl))
          (try simp only [Act.put, List.getElem_toArray, List.getElem_cons_succ, List.getElem_cons_zero, List.setIfInBounds_toArray, List.set_cons_zero, List.set_cons_succ])
          refine wpAnyH_take (i := 4) (v := ?_) rfl (by kernel_rfl) (by kernel_rfl) (by kernel_rfl) (fun _ _ _ h => h) (Or.inl ⟨by rfl, ?_⟩) (by assumption) ?_
          rotate_left 1
          · (intro w hSw; (try dsimp only at hSw); (try simp only [List.getElem_toArray, List.getElem_cons_succ, List.getElem_cons_zero]); go_simp; (try with_reducible rfl))
          (try simp only [Act.put, List.getElem_toArray, List.getElem_cons_succ, List.getElem_cons_zero, List.setIfInBounds_toArray, List.set_cons_zero, List.set_cons_succ])
          refine wpAnyH_ready (rs := [2]) (by kernel_rfl) (by simp) ?_
          refine AllReadyH.cons rfl (fun K hK => ?_) AllReadyH.nil
          (try simp only [List.getElem_toArray, List.getElem_cons_succ, List.getElem_cons_zero])
          go_simp
          refine ((CoreMay.may_any _ a (Nat.le_refl _) (by omega) (free) (by have := Qd1.out; omega) (by have := Qd2.out; omega) _ _ _ (Kd.C_below Ca.out hHeld.2.2.2.2.2.2.2.2) hla).mono fun e w' h => (⟨h.1.trans (by rw [VA.out]), h.2⟩ : e = .returned (.bool ma) ∧ _)).mono ?_
          rintro e w9 ⟨rfl, hb⟩
          simp only []
          refine hK.out _ _ ?_ (fun hHeld => ?_)
          · (try dsimp only); exact CoreMay.keep8 hHeld hb
          clear hK K
          (try simp only [Act.put, List.getElem_toArray, List.getElem_cons_succ, List.getElem_cons_zero, List.setIfInBounds_toArray, List.set_cons_zero, List.set_cons_succ])
          refine wpAnyH_ready (rs := [5]) (by kernel_rfl) (by simp) ?_
          refine AllReadyH.cons rfl (fun K hK => ?_) AllReadyH.nil
          (try simp only [List.getElem_toArray, List.getElem_cons_succ, List.getElem_cons_zero])
          go_simp
          refine ((CoreMay.may_any _ b (Nat.le_refl _) (by omega) (free) (by have := Qd1.out; omega) (by have := Qd2.out; omega) _ _ _ (Kd.C_below Cb.out hHeld.2.2.2.2.2.2.2.2) hlb).mono fun e w' h => (⟨h.1.trans (by rw [VB.out]), h.2⟩ : e = .returned (.bool mb) ∧ _)).mono ?_
          rintro e w9 ⟨rfl, hb⟩
          simp only []
          refine hK.out _ _ ?_ (fun hHeld => ?_)
          · (try dsimp only); exact CoreMay.keep8 hHeld hb
          clear hK K
          (try simp only [Act.put, List.getElem_toArray, List.getElem_cons_succ, List.getElem_cons_zero, List.setIfInBounds_toArray, List.set_cons_zero, List.set_cons_succ])
          refine wpAnyH_take (i := 6) (v := ?_) rfl (by kernel_rfl) (by kernel_rfl) (by kernel_rfl) (fun _ _ _ h => h) (Or.inl ⟨by rfl, ?_⟩) (by assumption) ?_
          rotate_left 1
          · (intro w hSw; (try dsimp only at hSw); (try simp only [List.getElem_toArray, List.getElem_cons_succ, List.getElem_cons_zero]); go_simp; (try with_reducible rfl))
          (try simp only [Act.put, List.getElem_toArray, List.getElem_cons_succ, List.getElem_cons_zero, List.setIfInBounds_toArray, List.set_cons_zero, List.set_cons_succ])
          refine wpAnyH_take (i := 7) (v := ?_) rfl (by kernel_rfl) (by kernel_rfl) (by kernel_rfl) (fun _ _ _ h => h) (Or.inl ⟨by rfl, ?_⟩) (by assumption) ?_
          rotate_left 1
          · (intro w hSw; (try dsimp only at hSw); (try simp only [List.getElem_toArray, List.getElem_cons_succ, List.getElem_cons_zero]); go_simp; (try with_reducible rfl))
          (try simp only [Act.put, List.getElem_toArray, List.getElem_cons_succ, List.getElem_cons_zero, List.setIfInBounds_toArray, List.set_cons_zero, List.set_cons_succ])
          refine wpAnyH_done (by kernel_rfl) ?_ _
          have hb := hHeld.2.2.2.2.2.2.2.2
          clear hHeld
          have n0_ := Lib.hid (below_step HB.out hb); have nX := Lib.hid (blk_below Bx.out hb)
          have nCa := Lib.hid (Kd.C_below Ca.out hb); have nBa := Lib.hid (blk_below Ba.out hb)
          have nCb := Lib.hid (Kd.C_below Cb.out hb); have nBb := Lib.hid (blk_below Bb.out hb)
          clear HB Bx Ca Ba Cb Bb hb a0 a1 a2 a3 b0 b1 b2 b3 x0 x1
          have HB := n0_; have Bx := nX
          have Ca := nCa; have Ba := nBa
          have Cb := nCb; have Bb := nBb
          clear n0_ nX nCa nBa nCb nBb
          have a0 := blk_cell Ba.out 0
          have a1 := blk_cell Ba.out 1
          have a2 := blk_cell Ba.out 2
          have a3 := blk_cell Ba.out 3
          have b0 := blk_cell Bb.out 0
          have b1 := blk_cell Bb.out 1
          have b2 := blk_cell Bb.out 2
          have b3 := blk_cell Bb.out 3
          have x0 := blk_cell Bx.out 0; have x1 := blk_cell Bx.out 1
          simp only [List.getElem?_toArray, List.getElem?_cons_zero, List.getElem?_cons_succ] at x0 x1 a0 a1 a2 a3 b0 b1 b2 b3
          have hwal := wt_alt b; have hhal := height_alt b; have hwla := wt_lam a; have hhla := height_lam a
          go_upto_region 8 with (fail)
          have cu := CoreFix.C1 (k24_mk w9 b (A3 := Ab) (c3 := cb) hlb Cb.out)
          change Kd.C k24 (w9.alloc (Obj.cells #[.int .i64 b.f0, .int .i64 b.f1, .string b.f2, .slice Ab b.f3.length cb] 24)) _ 1 (altB b).f3 at cu
          have hr := below_alloc (Below.refl w9.heap.size w9) (Obj.cells #[.int .i64 b.f0, .int .i64 b.f1, .string b.f2, .slice Ab b.f3.length cb] 24)
          have sr := World.size_alloc w9 (Obj.cells #[.int .i64 b.f0, .int .i64 b.f1, .string b.f2, .slice Ab b.f3.length cb] 24)
          generalize w9.alloc (Obj.cells #[.int .i64 b.f0, .int .i64 b.f1, .string b.f2, .slice Ab b.f3.length cb] 24) = wr at cu hr sr ⊢
          have bl := blk_new wr (Obj.cells #[.int .i64 6, .int .i64 0, .string ⟨#[65]⟩, .slice (some ⟨w9.heap.size, 0, none⟩) 1 1] 24)
          have hl := below_alloc (Below.refl wr.heap.size wr) (Obj.cells #[.int .i64 6, .int .i64 0, .string ⟨#[65]⟩, .slice (some ⟨w9.heap.size, 0, none⟩) 1 1] 24)
          rw [sr] at bl
          generalize wr.alloc (Obj.cells #[.int .i64 6, .int .i64 0, .string ⟨#[65]⟩, .slice (some ⟨w9.heap.size, 0, none⟩) 1 1] 24) = wz at bl hl ⊢
          have Cl := Lib.hid (Kd.C_below cu hl)
          have hb := below_step hr hl
          have Bl := Lib.hid bl
          clear hr hl bl cu sr
          have n0_ := Lib.hid (below_step HB.out hb); have nX := Lib.hid (blk_below Bx.out hb)
          have nCa := Lib.hid (Kd.C_below Ca.out hb); have nBa := Lib.hid (blk_below Ba.out hb)
          have nCb := Lib.hid (Kd.C_below Cb.out hb); have nBb := Lib.hid (blk_below Bb.out hb)
          clear HB Bx Ca Ba Cb Bb hb a0 a1 a2 a3 b0 b1 b2 b3 x0 x1
          have HB := n0_; have Bx := nX
          have Ca := nCa; have Ba := nBa
          have Cb := nCb; have Bb := nBb
          clear n0_ nX nCa nBa nCb nBb
          have a0 := blk_cell Ba.out 0
          have a1 := blk_cell Ba.out 1
          have a2 := blk_cell Ba.out 2
          have a3 := blk_cell Ba.out 3
          have b0 := blk_cell Bb.out 0
          have b1 := blk_cell Bb.out 1
          have b2 := blk_cell Bb.out 2
          have b3 := blk_cell Bb.out 3
          have x0 := blk_cell Bx.out 0; have x1 := blk_cell Bx.out 1
          simp only [List.getElem?_toArray, List.getElem?_cons_zero, List.getElem?_cons_succ] at x0 x1 a0 a1 a2 a3 b0 b1 b2 b3
          generalize w9.heap.size = g9 at *
          have l0 := blk_cell Bl.out 0; have l1 := blk_cell Bl.out 1; have l2 := blk_cell Bl.out 2; have l3 := blk_cell Bl.out 3
          simp only [List.getElem?_toArray, List.getElem?_cons_zero, List.getElem?_cons_succ] at l0 l1 l2 l3
          rcases Classical.em (0 ≤ n) with q | q
          · have dl : decide (n ≥ 0) = true := decide_eq_true q
            have dl2 : decide (0 ≤ n) = true := decide_eq_true q
            have QL := Lib.hid q
            clear q
            rcases Classical.em (n < free) with q | q
            · have dh : decide (n < free) = true := decide_eq_true q
              have QH := Lib.hid q
              clear q
              have HV : Hid (may (varB n) free = true) := Lib.hid (by rw [may_var, decide_eq_true QL.out, decide_eq_true QH.out]; rfl)
              have HAL : Hid (may (altB b) free = false) := Lib.hid rfl
              go_wp2_with fail
              refine ((CoreMay.may_any _ (varB n) (Nat.le_refl _) (by show (0 + 1 + 0 ≤ _); omega) (free) (by have := Qd1.out; omega) (by have := Qd2.out; have hv : height (varB n) = 1 := rfl; omega) _ _ _ (CoreFix.C0 _) (Nat.le_refl 0)).mono fun e w' h => (⟨h.1.trans (by rw [HV.out]), h.2⟩ : e = .returned (.bool true) ∧ _)).mono ?_
              rintro e w5 ⟨rfl, hb⟩
              have nL := Lib.hid (Kd.C_below Cl.out hb); have nM := Lib.hid (blk_below Bl.out hb)
              clear Cl Bl l0 l1 l2 l3
              have Cl := nL; have Bl := nM
              clear nL nM
              have l0 := blk_cell Bl.out 0; have l1 := blk_cell Bl.out 1; have l2 := blk_cell Bl.out 2; have l3 := blk_cell Bl.out 3
              simp only [List.getElem?_toArray, List.getElem?_cons_zero, List.getElem?_cons_succ] at l0 l1 l2 l3
              have n0_ := Lib.hid (below_step HB.out hb); have nX := Lib.hid (blk_below Bx.out hb)
              have nCa := Lib.hid (Kd.C_below Ca.out hb); have nBa := Lib.hid (blk_below Ba.out hb)
              have nCb := Lib.hid (Kd.C_below Cb.out hb); have nBb := Lib.hid (blk_below Bb.out hb)
              clear HB Bx Ca Ba Cb Bb hb a0 a1 a2 a3 b0 b1 b2 b3 x0 x1
              have HB := n0_; have Bx := nX
              have Ca := nCa; have Ba := nBa
              have Cb := nCb; have Bb := nBb
              clear n0_ nX nCa nBa nCb nBb
              have a0 := blk_cell Ba.out 0
              have a1 := blk_cell Ba.out 1
              have a2 := blk_cell Ba.out 2
              have a3 := blk_cell Ba.out 3
              have b0 := blk_cell Bb.out 0
              have b1 := blk_cell Bb.out 1
              have b2 := blk_cell Bb.out 2
              have b3 := blk_cell Bb.out 3
              have x0 := blk_cell Bx.out 0; have x1 := blk_cell Bx.out 1
              simp only [List.getElem?_toArray, List.getElem?_cons_zero, List.getElem?_cons_succ] at x0 x1 a0 a1 a2 a3 b0 b1 b2 b3
              go_wp2_with fail
              refine ((CoreMay.may_any _ (altB b) (Nat.le_refl _) (by omega) (free) (by have := Qd1.out; omega) (by have := Qd2.out; omega) _ _ _ Cl.out (Nat.le_refl 1)).mono fun e w' h => (⟨h.1.trans (by rw [HAL.out]), h.2⟩ : e = .returned (.bool false) ∧ _)).mono ?_
              rintro e w5 ⟨rfl, hb⟩
              have nL := Lib.hid (Kd.C_below Cl.out hb); have nM := Lib.hid (blk_below Bl.out hb)
              clear Cl Bl l0 l1 l2 l3
              have Cl := nL; have Bl := nM
              clear nL nM
              have l0 := blk_cell Bl.out 0; have l1 := blk_cell Bl.out 1; have l2 := blk_cell Bl.out 2; have l3 := blk_cell Bl.out 3
              simp only [List.getElem?_toArray, List.getElem?_cons_zero, List.getElem?_cons_succ] at l0 l1 l2 l3
              have n0_ := Lib.hid (below_step HB.out hb); have nX := Lib.hid (blk_below Bx.out hb)
              have nCa := Lib.hid (Kd.C_below Ca.out hb); have nBa := Lib.hid (blk_below Ba.out hb)
              have nCb := Lib.hid (Kd.C_below Cb.out hb); have nBb := Lib.hid (blk_below Bb.out hb)
              clear HB Bx Ca Ba Cb Bb hb a0 a1 a2 a3 b0 b1 b2 b3 x0 x1
              have HB := n0_; have Bx := nX
              have Ca := nCa; have Ba := nBa
              have Cb := nCb; have Bb := nBb
              clear n0_ nX nCa nBa nCb nBb
              have a0 := blk_cell Ba.out 0
              have a1 := blk_cell Ba.out 1
              have a2 := blk_cell Ba.out 2
              have a3 := blk_cell Ba.out 3
              have b0 := blk_cell Bb.out 0
              have b1 := blk_cell Bb.out 1
              have b2 := blk_cell Bb.out 2
              have b3 := blk_cell Bb.out 3
              have x0 := blk_cell Bx.out 0; have x1 := blk_cell Bx.out 1
              simp only [List.getElem?_toArray, List.getElem?_cons_zero, List.getElem?_cons_succ] at x0 x1 a0 a1 a2 a3 b0 b1 b2 b3
              have f1a0 := fun (o0 : Obj) => ((below_alloc (Below.refl w5.heap.size w5) o0).cell (World.block_lt_of_cell? _ _ a0)).trans a0
              have f1a1 := fun (o0 : Obj) => ((below_alloc (Below.refl w5.heap.size w5) o0).cell (World.block_lt_of_cell? _ _ a1)).trans a1
              have f1a2 := fun (o0 : Obj) => ((below_alloc (Below.refl w5.heap.size w5) o0).cell (World.block_lt_of_cell? _ _ a2)).trans a2
              have f1a3 := fun (o0 : Obj) => ((below_alloc (Below.refl w5.heap.size w5) o0).cell (World.block_lt_of_cell? _ _ a3)).trans a3
              have f1b0 := fun (o0 : Obj) => ((below_alloc (Below.refl w5.heap.size w5) o0).cell (World.block_lt_of_cell? _ _ b0)).trans b0
              have f1b1 := fun (o0 : Obj) => ((below_alloc (Below.refl w5.heap.size w5) o0).cell (World.block_lt_of_cell? _ _ b1)).trans b1
              have f1b2 := fun (o0 : Obj) => ((below_alloc (Below.refl w5.heap.size w5) o0).cell (World.block_lt_of_cell? _ _ b2)).trans b2
              have f1b3 := fun (o0 : Obj) => ((below_alloc (Below.refl w5.heap.size w5) o0).cell (World.block_lt_of_cell? _ _ b3)).trans b3
              have f2a0 := fun (o0 : Obj) (o1 : Obj) => ((below_step (below_alloc (Below.refl w5.heap.size w5) o0) (below_alloc (Below.refl (w5.alloc o0).heap.size (w5.alloc o0)) o1)).cell (World.block_lt_of_cell? _ _ a0)).trans a0
              have f2a1 := fun (o0 : Obj) (o1 : Obj) => ((below_step (below_alloc (Below.refl w5.heap.size w5) o0) (below_alloc (Below.refl (w5.alloc o0).heap.size (w5.alloc o0)) o1)).cell (World.block_lt_of_cell? _ _ a1)).trans a1
              have f2a2 := fun (o0 : Obj) (o1 : Obj) => ((below_step (below_alloc (Below.refl w5.heap.size w5) o0) (below_alloc (Below.refl (w5.alloc o0).heap.size (w5.alloc o0)) o1)).cell (World.block_lt_of_cell? _ _ a2)).trans a2
              have f2a3 := fun (o0 : Obj) (o1 : Obj) => ((below_step (below_alloc (Below.refl w5.heap.size w5) o0) (below_alloc (Below.refl (w5.alloc o0).heap.size (w5.alloc o0)) o1)).cell (World.block_lt_of_cell? _ _ a3)).trans a3
              have f2b0 := fun (o0 : Obj) (o1 : Obj) => ((below_step (below_alloc (Below.refl w5.heap.size w5) o0) (below_alloc (Below.refl (w5.alloc o0).heap.size (w5.alloc o0)) o1)).cell (World.block_lt_of_cell? _ _ b0)).trans b0
              have f2b1 := fun (o0 : Obj) (o1 : Obj) => ((below_step (below_alloc (Below.refl w5.heap.size w5) o0) (below_alloc (Below.refl (w5.alloc o0).heap.size (w5.alloc o0)) o1)).cell (World.block_lt_of_cell? _ _ b1)).trans b1
              have f2b2 := fun (o0 : Obj) (o1 : Obj) => ((below_step (below_alloc (Below.refl w5.heap.size w5) o0) (below_alloc (Below.refl (w5.alloc o0).heap.size (w5.alloc o0)) o1)).cell (World.block_lt_of_cell? _ _ b2)).trans b2
              have f2b3 := fun (o0 : Obj) (o1 : Obj) => ((below_step (below_alloc (Below.refl w5.heap.size w5) o0) (below_alloc (Below.refl (w5.alloc o0).heap.size (w5.alloc o0)) o1)).cell (World.block_lt_of_cell? _ _ b3)).trans b3
              have f3a0 := fun (o0 : Obj) (o1 : Obj) (o2 : Obj) => ((below_step (below_step (below_alloc (Below.refl w5.heap.size w5) o0) (below_alloc (Below.refl (w5.alloc o0).heap.size (w5.alloc o0)) o1)) (below_alloc (Below.refl ((w5.alloc o0).alloc o1).heap.size ((w5.alloc o0).alloc o1)) o2)).cell (World.block_lt_of_cell? _ _ a0)).trans a0
              have f3a1 := fun (o0 : Obj) (o1 : Obj) (o2 : Obj) => ((below_step (below_step (below_alloc (Below.refl w5.heap.size w5) o0) (below_alloc (Below.refl (w5.alloc o0).heap.size (w5.alloc o0)) o1)) (below_alloc (Below.refl ((w5.alloc o0).alloc o1).heap.size ((w5.alloc o0).alloc o1)) o2)).cell (World.block_lt_of_cell? _ _ a1)).trans a1
              have f3a2 := fun (o0 : Obj) (o1 : Obj) (o2 : Obj) => ((below_step (below_step (below_alloc (Below.refl w5.heap.size w5) o0) (below_alloc (Below.refl (w5.alloc o0).heap.size (w5.alloc o0)) o1)) (below_alloc (Below.refl ((w5.alloc o0).alloc o1).heap.size ((w5.alloc o0).alloc o1)) o2)).cell (World.block_lt_of_cell? _ _ a2)).trans a2
              have f3a3 := fun (o0 : Obj) (o1 : Obj) (o2 : Obj) => ((below_step (below_step (below_alloc (Below.refl w5.heap.size w5) o0) (below_alloc (Below.refl (w5.alloc o0).heap.size (w5.alloc o0)) o1)) (below_alloc (Below.refl ((w5.alloc o0).alloc o1).heap.size ((w5.alloc o0).alloc o1)) o2)).cell (World.block_lt_of_cell? _ _ a3)).trans a3
              have f3l0 := fun (o0 : Obj) (o1 : Obj) (o2 : Obj) => ((below_step (below_step (below_alloc (Below.refl w5.heap.size w5) o0) (below_alloc (Below.refl (w5.alloc o0).heap.size (w5.alloc o0)) o1)) (below_alloc (Below.refl ((w5.alloc o0).alloc o1).heap.size ((w5.alloc o0).alloc o1)) o2)).cell (World.block_lt_of_cell? _ _ l0)).trans l0
              have f3l1 := fun (o0 : Obj) (o1 : Obj) (o2 : Obj) => ((below_step (below_step (below_alloc (Below.refl w5.heap.size w5) o0) (below_alloc (Below.refl (w5.alloc o0).heap.size (w5.alloc o0)) o1)) (below_alloc (Below.refl ((w5.alloc o0).alloc o1).heap.size ((w5.alloc o0).alloc o1)) o2)).cell (World.block_lt_of_cell? _ _ l1)).trans l1
              have f3l2 := fun (o0 : Obj) (o1 : Obj) (o2 : Obj) => ((below_step (below_step (below_alloc (Below.refl w5.heap.size w5) o0) (below_alloc (Below.refl (w5.alloc o0).heap.size (w5.alloc o0)) o1)) (below_alloc (Below.refl ((w5.alloc o0).alloc o1).heap.size ((w5.alloc o0).alloc o1)) o2)).cell (World.block_lt_of_cell? _ _ l2)).trans l2
              have f3l3 := fun (o0 : Obj) (o1 : Obj) (o2 : Obj) => ((below_step (below_step (below_alloc (Below.refl w5.heap.size w5) o0) (below_alloc (Below.refl (w5.alloc o0).heap.size (w5.alloc o0)) o1)) (below_alloc (Below.refl ((w5.alloc o0).alloc o1).heap.size ((w5.alloc o0).alloc o1)) o2)).cell (World.block_lt_of_cell? _ _ l3)).trans l3
              go_upto_region 11 with (fail)
              clear f1a0 f1a1 f1a2 f1a3 f1b0 f1b1 f1b2 f1b3 f2a0 f2a1 f2a2 f2a3 f2b0 f2b1 f2b2 f2b3 f3a0 f3a1 f3a2 f3a3 f3l0 f3l1 f3l2 f3l3
              have CaT := Ca; have CbT := Cb; have ClT := Cl
              have HBT := Lib.hid (Below.refl w5.heap.size w5)
              have cr0 := CoreFix.C2 (k24_mk w5 a (A3 := Aa) (c3 := ca) hla (CaT.out)) (k24_mk w5 b (A3 := Ab) (c3 := cb) hlb (CbT.out))
              change Kd.C k24 (w5.alloc (Obj.cells #[.int .i64 a.f0, .int .i64 a.f1, .string a.f2, .slice Aa a.f3.length ca, .int .i64 b.f0, .int .i64 b.f1, .string b.f2, .slice Ab b.f3.length cb] 24)) _ 2 [a, b] at cr0
              have hr := below_alloc (Below.refl w5.heap.size w5) (Obj.cells #[.int .i64 a.f0, .int .i64 a.f1, .string a.f2, .slice Aa a.f3.length ca, .int .i64 b.f0, .int .i64 b.f1, .string b.f2, .slice Ab b.f3.length cb] 24)
              have sr0 := World.size_alloc w5 (Obj.cells #[.int .i64 a.f0, .int .i64 a.f1, .string a.f2, .slice Aa a.f3.length ca, .int .i64 b.f0, .int .i64 b.f1, .string b.f2, .slice Ab b.f3.length cb] 24)
              generalize w5.alloc (Obj.cells #[.int .i64 a.f0, .int .i64 a.f1, .string a.f2, .slice Aa a.f3.length ca, .int .i64 b.f0, .int .i64 b.f1, .string b.f2, .slice Ab b.f3.length cb] 24) = ua at cr0 hr sr0 ⊢
              have CR0 := Lib.hid cr0
              clear cr0
              have nA := Lib.hid (Kd.C_below CaT.out hr); have nB := Lib.hid (Kd.C_below CbT.out hr); have nL := Lib.hid (Kd.C_below ClT.out hr); have nT := Lib.hid (below_step HBT.out hr)
              clear CaT CbT ClT HBT hr 
              have CaT := nA; have CbT := nB; have ClT := nL; have HBT := nT
              clear nA nB nL nT 
              have cr1 := CoreFix.C2 (k24_mk ua a (A3 := Aa) (c3 := ca) hla (CaT.out)) (k24_mk ua b (A3 := Ab) (c3 := cb) hlb (CbT.out))
              change Kd.C k24 (ua.alloc (Obj.cells #[.int .i64 a.f0, .int .i64 a.f1, .string a.f2, .slice Aa a.f3.length ca, .int .i64 b.f0, .int .i64 b.f1, .string b.f2, .slice Ab b.f3.length cb] 24)) _ 2 [a, b] at cr1
              have hr := below_alloc (Below.refl ua.heap.size ua) (Obj.cells #[.int .i64 a.f0, .int .i64 a.f1, .string a.f2, .slice Aa a.f3.length ca, .int .i64 b.f0, .int .i64 b.f1, .string b.f2, .slice Ab b.f3.length cb] 24)
              have sr1 := World.size_alloc ua (Obj.cells #[.int .i64 a.f0, .int .i64 a.f1, .string a.f2, .slice Aa a.f3.length ca, .int .i64 b.f0, .int .i64 b.f1, .string b.f2, .slice Ab b.f3.length cb] 24)
              generalize ua.alloc (Obj.cells #[.int .i64 a.f0, .int .i64 a.f1, .string a.f2, .slice Aa a.f3.length ca, .int .i64 b.f0, .int .i64 b.f1, .string b.f2, .slice Ab b.f3.length cb] 24) = ub at cr1 hr sr1 ⊢
              rw [sr0] at cr1
              have CR1 := Lib.hid cr1
              clear cr1
              have nA := Lib.hid (Kd.C_below CaT.out hr); have nB := Lib.hid (Kd.C_below CbT.out hr); have nL := Lib.hid (Kd.C_below ClT.out hr); have nT := Lib.hid (below_step HBT.out hr)
              have nR0 := Lib.hid (Kd.C_below CR0.out hr)
              clear CaT CbT ClT HBT hr CR0
              have CaT := nA; have CbT := nB; have ClT := nL; have HBT := nT
              have CR0 := nR0
              clear nA nB nL nT nR0
              have cr2 := CoreFix.C2 (k24_mk ub a (A3 := Aa) (c3 := ca) hla (CaT.out)) (k24_mk ub b (A3 := Ab) (c3 := cb) hlb (CbT.out))
              change Kd.C k24 (ub.alloc (Obj.cells #[.int .i64 a.f0, .int .i64 a.f1, .string a.f2, .slice Aa a.f3.length ca, .int .i64 b.f0, .int .i64 b.f1, .string b.f2, .slice Ab b.f3.length cb] 24)) _ 2 [a, b] at cr2
              have hr := below_alloc (Below.refl ub.heap.size ub) (Obj.cells #[.int .i64 a.f0, .int .i64 a.f1, .string a.f2, .slice Aa a.f3.length ca, .int .i64 b.f0, .int .i64 b.f1, .string b.f2, .slice Ab b.f3.length cb] 24)
              have sr2 := World.size_alloc ub (Obj.cells #[.int .i64 a.f0, .int .i64 a.f1, .string a.f2, .slice Aa a.f3.length ca, .int .i64 b.f0, .int .i64 b.f1, .string b.f2, .slice Ab b.f3.length cb] 24)
              generalize ub.alloc (Obj.cells #[.int .i64 a.f0, .int .i64 a.f1, .string a.f2, .slice Aa a.f3.length ca, .int .i64 b.f0, .int .i64 b.f1, .string b.f2, .slice Ab b.f3.length cb] 24) = uc at cr2 hr sr2 ⊢
              rw [sr1, sr0] at cr2
              have CR2 := Lib.hid cr2
              clear cr2
              have nA := Lib.hid (Kd.C_below CaT.out hr); have nB := Lib.hid (Kd.C_below CbT.out hr); have nL := Lib.hid (Kd.C_below ClT.out hr); have nT := Lib.hid (below_step HBT.out hr)
              have nR0 := Lib.hid (Kd.C_below CR0.out hr)
              have nR1 := Lib.hid (Kd.C_below CR1.out hr)
              clear CaT CbT ClT HBT hr CR0 CR1
              have CaT := nA; have CbT := nB; have ClT := nL; have HBT := nT
              have CR0 := nR0
              have CR1 := nR1
              clear nA nB nL nT nR0 nR1
              have cr3 := CoreFix.C2 (k24_mk uc a (A3 := Aa) (c3 := ca) hla (CaT.out)) (k24_mk uc (altB b) (A3 := some ⟨g9, 0, none⟩) (c3 := 1) (Nat.le_refl 1) (ClT.out))
              change Kd.C k24 (uc.alloc (Obj.cells #[.int .i64 a.f0, .int .i64 a.f1, .string a.f2, .slice Aa a.f3.length ca, .int .i64 6, .int .i64 0, .string ⟨#[65]⟩, .slice (some ⟨g9, 0, none⟩) 1 1] 24)) _ 2 [a, altB b] at cr3
              have hr := below_alloc (Below.refl uc.heap.size uc) (Obj.cells #[.int .i64 a.f0, .int .i64 a.f1, .string a.f2, .slice Aa a.f3.length ca, .int .i64 6, .int .i64 0, .string ⟨#[65]⟩, .slice (some ⟨g9, 0, none⟩) 1 1] 24)
              have sr3 := World.size_alloc uc (Obj.cells #[.int .i64 a.f0, .int .i64 a.f1, .string a.f2, .slice Aa a.f3.length ca, .int .i64 6, .int .i64 0, .string ⟨#[65]⟩, .slice (some ⟨g9, 0, none⟩) 1 1] 24)
              generalize uc.alloc (Obj.cells #[.int .i64 a.f0, .int .i64 a.f1, .string a.f2, .slice Aa a.f3.length ca, .int .i64 6, .int .i64 0, .string ⟨#[65]⟩, .slice (some ⟨g9, 0, none⟩) 1 1] 24) = ud at cr3 hr sr3 ⊢
              rw [sr2, sr1, sr0] at cr3
              have CR3 := Lib.hid cr3
              clear cr3
              have nA := Lib.hid (Kd.C_below CaT.out hr); have nB := Lib.hid (Kd.C_below CbT.out hr); have nL := Lib.hid (Kd.C_below ClT.out hr); have nT := Lib.hid (below_step HBT.out hr)
              have nR0 := Lib.hid (Kd.C_below CR0.out hr)
              have nR1 := Lib.hid (Kd.C_below CR1.out hr)
              have nR2 := Lib.hid (Kd.C_below CR2.out hr)
              clear CaT CbT ClT HBT hr CR0 CR1 CR2
              have CaT := nA; have CbT := nB; have ClT := nL; have HBT := nT
              have CR0 := nR0
              have CR1 := nR1
              have CR2 := nR2
              clear nA nB nL nT nR0 nR1 nR2
              have cr4 := C4 (k24_mk ud (tA a b) (A3 := some ⟨w5.heap.size, 0, none⟩) (c3 := 2) (Nat.le_refl 2) CR0.out) (k24_mk ud (tC a b) (A3 := some ⟨w5.heap.size + 1, 0, none⟩) (c3 := 2) (Nat.le_refl 2) CR1.out) (k24_mk ud (tO a b) (A3 := some ⟨w5.heap.size + 1 + 1, 0, none⟩) (c3 := 2) (Nat.le_refl 2) CR2.out) (k24_mk ud (tK a b) (A3 := some ⟨w5.heap.size + 1 + 1 + 1, 0, none⟩) (c3 := 2) (Nat.le_refl 2) CR3.out)
              change Kd.C k24 (ud.alloc (Obj.cells #[.int .i64 3, .int .i64 0, .string ⟨#[]⟩, .slice (some ⟨w5.heap.size, 0, none⟩) 2 2, .int .i64 4, .int .i64 0, .string ⟨#[65]⟩, .slice (some ⟨w5.heap.size + 1, 0, none⟩) 2 2, .int .i64 8, .int .i64 0, .string ⟨#[60]⟩, .slice (some ⟨w5.heap.size + 1 + 1, 0, none⟩) 2 2, .int .i64 5, .int .i64 0, .string ⟨#[]⟩, .slice (some ⟨w5.heap.size + 1 + 1 + 1, 0, none⟩) 2 2] 24)) _ 4 (lst a b) at cr4
              have hr := below_alloc (Below.refl ud.heap.size ud) (Obj.cells #[.int .i64 3, .int .i64 0, .string ⟨#[]⟩, .slice (some ⟨w5.heap.size, 0, none⟩) 2 2, .int .i64 4, .int .i64 0, .string ⟨#[65]⟩, .slice (some ⟨w5.heap.size + 1, 0, none⟩) 2 2, .int .i64 8, .int .i64 0, .string ⟨#[60]⟩, .slice (some ⟨w5.heap.size + 1 + 1, 0, none⟩) 2 2, .int .i64 5, .int .i64 0, .string ⟨#[]⟩, .slice (some ⟨w5.heap.size + 1 + 1 + 1, 0, none⟩) 2 2] 24)
              rw [sr3, sr2, sr1, sr0] at cr4
              generalize ud.alloc (Obj.cells #[.int .i64 3, .int .i64 0, .string ⟨#[]⟩, .slice (some ⟨w5.heap.size, 0, none⟩) 2 2, .int .i64 4, .int .i64 0, .string ⟨#[65]⟩, .slice (some ⟨w5.heap.size + 1, 0, none⟩) 2 2, .int .i64 8, .int .i64 0, .string ⟨#[60]⟩, .slice (some ⟨w5.heap.size + 1 + 1, 0, none⟩) 2 2, .int .i64 5, .int .i64 0, .string ⟨#[]⟩, .slice (some ⟨w5.heap.size + 1 + 1 + 1, 0, none⟩) 2 2] 24) = ue at cr4 hr ⊢
              have Cq := Lib.hid cr4
              have hb := below_step HBT.out hr
              clear cr4 hr HBT CaT CbT ClT CR0 CR1 CR2 CR3 sr0 sr1 sr2 sr3
              have nL := Lib.hid (Kd.C_below Cl.out hb); have nM := Lib.hid (blk_below Bl.out hb)
              clear Cl Bl l0 l1 l2 l3
              have Cl := nL; have Bl := nM
              clear nL nM
              have l0 := blk_cell Bl.out 0; have l1 := blk_cell Bl.out 1; have l2 := blk_cell Bl.out 2; have l3 := blk_cell Bl.out 3
              simp only [List.getElem?_toArray, List.getElem?_cons_zero, List.getElem?_cons_succ] at l0 l1 l2 l3
              have n0_ := Lib.hid (below_step HB.out hb); have nX := Lib.hid (blk_below Bx.out hb)
              have nCa := Lib.hid (Kd.C_below Ca.out hb); have nBa := Lib.hid (blk_below Ba.out hb)
              have nCb := Lib.hid (Kd.C_below Cb.out hb); have nBb := Lib.hid (blk_below Bb.out hb)
              clear HB Bx Ca Ba Cb Bb hb a0 a1 a2 a3 b0 b1 b2 b3 x0 x1
              have HB := n0_; have Bx := nX
              have Ca := nCa; have Ba := nBa
              have Cb := nCb; have Bb := nBb
              clear n0_ nX nCa nBa nCb nBb
              have a0 := blk_cell Ba.out 0
              have a1 := blk_cell Ba.out 1
              have a2 := blk_cell Ba.out 2
              have a3 := blk_cell Ba.out 3
              have b0 := blk_cell Bb.out 0
              have b1 := blk_cell Bb.out 1
              have b2 := blk_cell Bb.out 2
              have b3 := blk_cell Bb.out 3
              have x0 := blk_cell Bx.out 0; have x1 := blk_cell Bx.out 1
              simp only [List.getElem?_toArray, List.getElem?_cons_zero, List.getElem?_cons_succ] at x0 x1 a0 a1 a2 a3 b0 b1 b2 b3
              clear Cl Bl l0 l1 l2 l3
              have Cq0 := Cq.out
              clear Cq
              generalize w5.heap.size = g5 at *
              generalize (⟨g5 + 1 + 1 + 1 + 1, 0, none⟩ : Addr) = adq at Cq0 ⊢
              have Cq := Lib.hid Cq0
              clear Cq0
              cases ma with
              | true =>
                cases mb with
                | true =>
                  have HPQ : Hid (∀ x ∈ lst a b, may x free = true) := Lib.hid (by intro x hx; rw [may_lst a b free (by have := Qd1.out; omega) x hx, VA.out, VB.out]; rfl)
                  have HWL := Lib.hid (wt_lst a b); have HHL := Lib.hid (height_lst a b)
                  go_wp2_with fail
                  go_loopw [13] (fun i wr => ∃ k : Nat, k ≤ 4 ∧ i = .int .i64 k ∧ Hid (Below ue.heap.size ue wr)) (fun i _ => 4 - (intOf i).toNat)
                  case atStart => exact ⟨0, by omega, rfl, Lib.hid (Below.refl _ _)⟩
                  case round =>
                    obtain ⟨k, hk, rfl, HBR⟩ := hrel
                    have hb := HBR.out
                    have n0_ := Lib.hid (below_step HB.out hb); have nX := Lib.hid (blk_below Bx.out hb)
                    have nCa := Lib.hid (Kd.C_below Ca.out hb); have nBa := Lib.hid (blk_below Ba.out hb)
                    have nCb := Lib.hid (Kd.C_below Cb.out hb); have nBb := Lib.hid (blk_below Bb.out hb)
                    clear HB Bx Ca Ba Cb Bb hb a0 a1 a2 a3 b0 b1 b2 b3 x0 x1
                    have HB := n0_; have Bx := nX
                    have Ca := nCa; have Ba := nBa
                    have Cb := nCb; have Bb := nBb
                    clear n0_ nX nCa nBa nCb nBb
                    have a0 := blk_cell Ba.out 0
                    have a1 := blk_cell Ba.out 1
                    have a2 := blk_cell Ba.out 2
                    have a3 := blk_cell Ba.out 3
                    have b0 := blk_cell Bb.out 0
                    have b1 := blk_cell Bb.out 1
                    have b2 := blk_cell Bb.out 2
                    have b3 := blk_cell Bb.out 3
                    have x0 := blk_cell Bx.out 0; have x1 := blk_cell Bx.out 1
                    simp only [List.getElem?_toArray, List.getElem?_cons_zero, List.getElem?_cons_succ] at x0 x1 a0 a1 a2 a3 b0 b1 b2 b3
                    have nq := Lib.hid (Kd.C_below Cq.out HBR.out)
                    clear Cq
                    have Cq := nq
                    clear nq
                    have hl4 : (lst a b).length = 4 := rfl
                    by_cases hlt : k < 4
                    · obtain ⟨ad, A3, c3, he, y0, y1, y2, y3, hl3, hc3⟩ := at_T24 Cq.out (k : Int) (by omega) (by omega)
                      cases he
                      simp only [Int.toNat_natCast] at y0 y1 y2 y3
                      have hrk : rd_T24 (lst a b) (k : Int) = (lst a b)[k]'(by rw [hl4]; exact hlt) := by
                        unfold rd_T24
                        rw [Int.toNat_natCast, List.getD_eq_getElem?_getD, List.getElem?_eq_getElem (by rw [hl4]; exact hlt)]; rfl
                      rw [hrk] at y0 y1 y2 y3 hl3 hc3
                      have hmem := List.getElem_mem (l := lst a b) (n := k) (by rw [hl4]; exact hlt)
                      have hpq := HPQ.out _ hmem
                      have hwy := HWL.out _ hmem; have hhy := HHL.out _ hmem
                      generalize (lst a b)[k]'(by rw [hl4]; exact hlt) = y at *
                      have HMY := Lib.hid hpq; have Cy := Lib.hid hc3
                      clear hrk hmem hpq hc3
                      go_wp2_with fail
                      refine ((CoreMay.may_any _ y (Nat.le_refl _) (by omega) (free) (by have := Qd1.out; omega) (by have := Qd2.out; omega) _ _ _ Cy.out hl3).mono fun e w' h => (⟨h.1.trans (by rw [HMY.out]), h.2⟩ : e = .returned (.bool true) ∧ _)).mono ?_
                      rintro e w6 ⟨rfl, hb⟩
                      have HBR7 := Lib.hid (below_step HBR.out hb)
                      clear hb
                      go_wp2_with fail
                      exact ⟨⟨k + 1, by omega, by first | rfl | go_num, HBR7⟩, by simp [intOf]; omega⟩
                    · obtain ⟨mq, VQ⟩ : ∃ q, Hid (may a (free + 1) = q) := ⟨_, Lib.hid rfl⟩
                      have HML : Hid (may (lamB a) free = mq) := Lib.hid (by rw [may_lam a free (by have := Qd1.out; omega), VQ.out])
                      have hwf : IntKind.i64.wrap (free + 1) = free + 1 := CoreMay.wrap_i64_small (by have := Qd1.out; omega) (by have := Qd2.out; omega)
                      go_upto_region 16 with (fail)
                      refine wp_region_held_drew (S := (fun w' => w'.cell? ⟨w.heap.size, 0, none⟩ = some (.int .i64 a.f0) ∧ w'.cell? ⟨w.heap.size, 1, none⟩ = some (.int .i64 a.f1) ∧ w'.cell? ⟨w.heap.size, 2, none⟩ = some (.string a.f2) ∧ w'.cell? ⟨w.heap.size, 3, none⟩ = some (.slice Aa a.f3.length ca) ∧ w'.cell? ⟨w.heap.size + 1, 0, none⟩ = some (.int .i64 b.f0) ∧ w'.cell? ⟨w.heap.size + 1, 1, none⟩ = some (.int .i64 b.f1) ∧ w'.cell? ⟨w.heap.size + 1, 2, none⟩ = some (.string b.f2) ∧ w'.cell? ⟨w.heap.size + 1, 3, none⟩ = some (.slice Ab b.f3.length cb) ∧ Below wr.heap.size wr w')) (by kernel_rfl) (by (try dsimp only); exact CoreMay.keep8 ⟨a0, a1, a2, a3, b0, b1, b2, b3, Below.refl _ _⟩ (below_drew1 (Below.refl _ _))) (fun hHeld => ?_)
                      refine wpAnyH_take (i := 0) (v := ?_) rfl (by kernel_rfl) (by kernel_rfl) (by kernel_rfl) (fun _ _ _ h => h) (Or.inl ⟨by rfl, ?_⟩) (by assumption) ?_
                      rotate_left 1
                      · (intro w hSw; (try dsimp only at hSw); (try simp only [List.getElem_toArray, List.getElem_cons_succ, List.getElem_cons_zero]); go_simp; (try with_reducible rfl))
                      (try simp only [Act.put, List.getElem_toArray, List.getElem_cons_succ, List.getElem_cons_zero, List.setIfInBounds_toArray, List.set_cons_zero, List.set_cons_succ])
                      refine wpAnyH_take (i := 3) (v := ?_) rfl (by kernel_rfl) (by kernel_rfl) (by kernel_rfl) (fun _ _ _ h => h) (Or.inl ⟨by rfl, ?_⟩) (by assumption) ?_
                      rotate_left 1
                      · (intro w hSw; (try dsimp only at hSw); (try simp only [List.getElem_toArray, List.getElem_cons_succ, List.getElem_cons_zero]); go_simp; (try with_reducible rfl))
                      (try simp only [Act.put, List.getElem_toArray, List.getElem_cons_succ, List.getElem_cons_zero, List.setIfInBounds_toArray, List.set_cons_zero, List.set_cons_succ])
                      refine wpAnyH_take (i := 5) (v := ?_) rfl (by kernel_rfl) (by kernel_rfl) (by kernel_rfl) (fun _ _ _ h => h) (Or.inl ⟨by rfl, ?_⟩) (by assumption) ?_
                      rotate_left 1
                      · (intro w hSw; (try dsimp only at hSw); (try simp only [List.getElem_toArray, List.getElem_cons_succ, List.getElem_cons_zero]); go_simp; (try with_reducible rfl))
                      (try simp only [Act.put, List.getElem_toArray, List.getElem_cons_succ, List.getElem_cons_zero, List.setIfInBounds_toArray, List.set_cons_zero, List.set_cons_succ])
                      refine wpAnyH_take (i := 6) (v := ?_) rfl (by kernel_rfl) (by kernel_rfl) (by kernel_rfl) (fun _ _ _ h => h) (Or.inl ⟨by rfl, ?_⟩) (by assumption) ?_
                      rotate_left 1
                      · (intro w hSw; (try dsimp only at hSw); (try simp only [List.getElem_toArray, List.getElem_cons_succ, List.getElem_cons_zero]); go_simp; (try with_reducible rfl))
                      (try simp only [Act.put, List.getElem_toArray, List.getElem_cons_succ, List.getElem_cons_zero, List.setIfInBounds_toArray, List.set_cons_zero, List.set_cons_succ])
                      refine wpAnyH_take (i := 7) (v := ?_) rfl (by kernel_rfl) (by kernel_rfl) (by kernel_rfl) (fun _ _ _ h => h) (Or.inl ⟨by rfl, ?_⟩) (by assumption) ?_
                      rotate_left 1
                      · (intro w hSw; (try dsimp only at hSw); (try simp only [List.getElem_toArray, List.getElem_cons_succ, List.getElem_cons_zero]); go_simp; (try with_reducible rfl))
                      (try simp only [Act.put, List.getElem_toArray, List.getElem_cons_succ, List.getElem_cons_zero, List.setIfInBounds_toArray, List.set_cons_zero, List.set_cons_succ])
                      refine wpAnyH_ready (rs := [1]) (by kernel_rfl) (by simp) ?_
                      refine AllReadyH.cons rfl (fun K hK => ?_) AllReadyH.nil
                      (try simp only [List.getElem_toArray, List.getElem_cons_succ, List.getElem_cons_zero])
                      go_simp
                      have cm := CoreFix.C1 (k24_mk wr.drew a (A3 := Aa) (c3 := ca) hla (Kd.C_below Ca.out hHeld.2.2.2.2.2.2.2.2))
                      change Kd.C k24 ((wr.alloc (Obj.cells #[.int .i64 a.f0, .int .i64 a.f1, .string a.f2, .slice Aa a.f3.length ca] 24)).drew) (some ⟨wr.heap.size, 0, none⟩) 1 (lamB a).f3 at cm
                      have hb : Below wr.drew.heap.size wr.drew ((wr.alloc (Obj.cells #[.int .i64 a.f0, .int .i64 a.f1, .string a.f2, .slice Aa a.f3.length ca] 24)).drew) := below_alloc (Below.refl wr.drew.heap.size wr.drew) (Obj.cells #[.int .i64 a.f0, .int .i64 a.f1, .string a.f2, .slice Aa a.f3.length ca] 24)
                      generalize (wr.alloc (Obj.cells #[.int .i64 a.f0, .int .i64 a.f1, .string a.f2, .slice Aa a.f3.length ca] 24)).drew = wv at cm hb ⊢
                      have CLM := Lib.hid cm
                      clear cm
                      refine hK.out _ _ ?_ (fun hHeld => ?_)
                      · (try dsimp only); exact CoreMay.keep8 hHeld hb
                      clear hK K
                      (try simp only [Act.put, List.getElem_toArray, List.getElem_cons_succ, List.getElem_cons_zero, List.setIfInBounds_toArray, List.set_cons_zero, List.set_cons_succ])
                      refine wpAnyH_take (i := 2) (v := ?_) rfl (by kernel_rfl) (by kernel_rfl) (by kernel_rfl) (fun _ _ _ h => h) (Or.inl ⟨by rfl, ?_⟩) (by assumption) ?_
                      rotate_left 1
                      · (intro w hSw; (try dsimp only at hSw); (try simp only [List.getElem_toArray, List.getElem_cons_succ, List.getElem_cons_zero]); go_simp; (try with_reducible rfl))
                      (try simp only [Act.put, List.getElem_toArray, List.getElem_cons_succ, List.getElem_cons_zero, List.setIfInBounds_toArray, List.set_cons_zero, List.set_cons_succ])
                      refine wpAnyH_ready (rs := [4]) (by kernel_rfl) (by simp) ?_
                      refine AllReadyH.cons rfl (fun K hK => ?_) AllReadyH.nil
                      (try simp only [List.getElem_toArray, List.getElem_cons_succ, List.getElem_cons_zero])
                      go_simp
                      refine ((CoreMay.may_any _ (lamB a) (Nat.le_refl _) (by omega) free (by have := Qd1.out; omega) (by have := Qd2.out; omega) _ _ _ CLM.out (Nat.le_refl 1)).mono fun e w' h => (⟨h.1.trans (by rw [HML.out]), h.2⟩ : e = .returned (.bool mq) ∧ _)).mono ?_
                      rintro e w9 ⟨rfl, hb⟩
                      simp only []
                      refine hK.out _ _ ?_ (fun hHeld => ?_)
                      · (try dsimp only); exact CoreMay.keep8 hHeld hb
                      clear hK K
                      (try simp only [Act.put, List.getElem_toArray, List.getElem_cons_succ, List.getElem_cons_zero, List.setIfInBounds_toArray, List.set_cons_zero, List.set_cons_succ])
                      refine wpAnyH_ready (rs := [8]) (by kernel_rfl) (by simp) ?_
                      refine AllReadyH.cons rfl (fun K hK => ?_) AllReadyH.nil
                      (try simp only [List.getElem_toArray, List.getElem_cons_succ, List.getElem_cons_zero])
                      go_simp
                      refine ((CoreMay.may_any _ a (Nat.le_refl _) (by omega) (free + 1) (by have := Qd1.out; omega) (by have := Qd2.out; omega) _ _ _ (Kd.C_below Ca.out hHeld.2.2.2.2.2.2.2.2) hla).mono fun e w' h => (⟨h.1.trans (by rw [VQ.out]), h.2⟩ : e = .returned (.bool mq) ∧ _)).mono ?_
                      rintro e w9 ⟨rfl, hb⟩
                      simp only []
                      refine hK.out _ _ ?_ (fun hHeld => ?_)
                      · (try dsimp only); exact CoreMay.keep8 hHeld hb
                      clear hK K
                      (try simp only [Act.put, List.getElem_toArray, List.getElem_cons_succ, List.getElem_cons_zero, List.setIfInBounds_toArray, List.set_cons_zero, List.set_cons_succ])
                      refine wpAnyH_take (i := 9) (v := ?_) rfl (by kernel_rfl) (by kernel_rfl) (by kernel_rfl) (fun _ _ _ h => h) (Or.inl ⟨by rfl, ?_⟩) (by assumption) ?_
                      rotate_left 1
                      · (intro w hSw; (try dsimp only at hSw); (try simp only [List.getElem_toArray, List.getElem_cons_succ, List.getElem_cons_zero]); go_simp; (try with_reducible rfl))
                      (try simp only [Act.put, List.getElem_toArray, List.getElem_cons_succ, List.getElem_cons_zero, List.setIfInBounds_toArray, List.set_cons_zero, List.set_cons_succ])
                      refine wpAnyH_take (i := 10) (v := ?_) rfl (by kernel_rfl) (by kernel_rfl) (by kernel_rfl) (fun _ _ _ h => h) (Or.inl ⟨by rfl, ?_⟩) (by assumption) ?_
                      rotate_left 1
                      · (intro w hSw; (try dsimp only at hSw); (try simp only [List.getElem_toArray, List.getElem_cons_succ, List.getElem_cons_zero]); go_simp; (try with_reducible rfl))
                      (try simp only [Act.put, List.getElem_toArray, List.getElem_cons_succ, List.getElem_cons_zero, List.setIfInBounds_toArray, List.set_cons_zero, List.set_cons_succ])
                      refine wpAnyH_done (by kernel_rfl) ?_ _
                      have HB9 := Lib.hid (below_step HB.out hHeld.2.2.2.2.2.2.2.2)
                      clear hHeld
                      go_wp2_with fail
                      go_ret
                      exact ⟨rfl, HB9.out⟩
                | false =>
                  have HPQ : Hid (∀ x ∈ lst a b, may x free = false) := Lib.hid (by intro x hx; rw [may_lst a b free (by have := Qd1.out; omega) x hx, VA.out, VB.out]; rfl)
                  have HWL := Lib.hid (wt_lst a b); have HHL := Lib.hid (height_lst a b)
                  go_wp2_with fail
                  go_loopw [13] (fun i wr => ∃ k : Nat, k ≤ 4 ∧ i = .int .i64 k ∧ Hid (Below ue.heap.size ue wr)) (fun i _ => 4 - (intOf i).toNat)
                  case atStart => exact ⟨0, by omega, rfl, Lib.hid (Below.refl _ _)⟩
                  case round =>
                    obtain ⟨k, hk, rfl, HBR⟩ := hrel
                    have hb := HBR.out
                    have n0_ := Lib.hid (below_step HB.out hb); have nX := Lib.hid (blk_below Bx.out hb)
                    have nCa := Lib.hid (Kd.C_below Ca.out hb); have nBa := Lib.hid (blk_below Ba.out hb)
                    have nCb := Lib.hid (Kd.C_below Cb.out hb); have nBb := Lib.hid (blk_below Bb.out hb)
                    clear HB Bx Ca Ba Cb Bb hb a0 a1 a2 a3 b0 b1 b2 b3 x0 x1
                    have HB := n0_; have Bx := nX
                    have Ca := nCa; have Ba := nBa
                    have Cb := nCb; have Bb := nBb
                    clear n0_ nX nCa nBa nCb nBb
                    have a0 := blk_cell Ba.out 0
                    have a1 := blk_cell Ba.out 1
                    have a2 := blk_cell Ba.out 2
                    have a3 := blk_cell Ba.out 3
                    have b0 := blk_cell Bb.out 0
                    have b1 := blk_cell Bb.out 1
                    have b2 := blk_cell Bb.out 2
                    have b3 := blk_cell Bb.out 3
                    have x0 := blk_cell Bx.out 0; have x1 := blk_cell Bx.out 1
                    simp only [List.getElem?_toArray, List.getElem?_cons_zero, List.getElem?_cons_succ] at x0 x1 a0 a1 a2 a3 b0 b1 b2 b3
                    have nq := Lib.hid (Kd.C_below Cq.out HBR.out)
                    clear Cq
                    have Cq := nq
                    clear nq
                    have hl4 : (lst a b).length = 4 := rfl
                    by_cases hlt : k < 4
                    · obtain ⟨ad, A3, c3, he, y0, y1, y2, y3, hl3, hc3⟩ := at_T24 Cq.out (k : Int) (by omega) (by omega)
                      cases he
                      simp only [Int.toNat_natCast] at y0 y1 y2 y3
                      have hrk : rd_T24 (lst a b) (k : Int) = (lst a b)[k]'(by rw [hl4]; exact hlt) := by
                        unfold rd_T24
                        rw [Int.toNat_natCast, List.getD_eq_getElem?_getD, List.getElem?_eq_getElem (by rw [hl4]; exact hlt)]; rfl
                      rw [hrk] at y0 y1 y2 y3 hl3 hc3
                      have hmem := List.getElem_mem (l := lst a b) (n := k) (by rw [hl4]; exact hlt)
                      have hpq := HPQ.out _ hmem
                      have hwy := HWL.out _ hmem; have hhy := HHL.out _ hmem
                      generalize (lst a b)[k]'(by rw [hl4]; exact hlt) = y at *
                      have HMY := Lib.hid hpq; have Cy := Lib.hid hc3
                      clear hrk hmem hpq hc3
                      go_wp2_with fail
                      refine ((CoreMay.may_any _ y (Nat.le_refl _) (by omega) (free) (by have := Qd1.out; omega) (by have := Qd2.out; omega) _ _ _ Cy.out hl3).mono fun e w' h => (⟨h.1.trans (by rw [HMY.out]), h.2⟩ : e = .returned (.bool false) ∧ _)).mono ?_
                      rintro e w6 ⟨rfl, hb⟩
                      have HBR7 := Lib.hid (below_step HBR.out hb)
                      clear hb
                      go_wp2_with fail
                      exact ⟨⟨k + 1, by omega, by first | rfl | go_num, HBR7⟩, by simp [intOf]; omega⟩
                    · obtain ⟨mq, VQ⟩ : ∃ q, Hid (may a (free + 1) = q) := ⟨_, Lib.hid rfl⟩
                      have HML : Hid (may (lamB a) free = mq) := Lib.hid (by rw [may_lam a free (by have := Qd1.out; omega), VQ.out])
                      have hwf : IntKind.i64.wrap (free + 1) = free + 1 := CoreMay.wrap_i64_small (by have := Qd1.out; omega) (by have := Qd2.out; omega)
                      go_upto_region 16 with (fail)
                      refine wp_region_held_drew (S := (fun w' => w'.cell? ⟨w.heap.size, 0, none⟩ = some (.int .i64 a.f0) ∧ w'.cell? ⟨w.heap.size, 1, none⟩ = some (.int .i64 a.f1) ∧ w'.cell? ⟨w.heap.size, 2, none⟩ = some (.string a.f2) ∧ w'.cell? ⟨w.heap.size, 3, none⟩ = some (.slice Aa a.f3.length ca) ∧ w'.cell? ⟨w.heap.size + 1, 0, none⟩ = some (.int .i64 b.f0) ∧ w'.cell? ⟨w.heap.size + 1, 1, none⟩ = some (.int .i64 b.f1) ∧ w'.cell? ⟨w.heap.size + 1, 2, none⟩ = some (.string b.f2) ∧ w'.cell? ⟨w.heap.size + 1, 3, none⟩ = some (.slice Ab b.f3.length cb) ∧ Below wr.heap.size wr w')) (by kernel_rfl) (by (try dsimp only); exact CoreMay.keep8 ⟨a0, a1, a2, a3, b0, b1, b2, b3, Below.refl _ _⟩ (below_drew1 (Below.refl _ _))) (fun hHeld => ?_)
                      refine wpAnyH_take (i := 0) (v := ?_) rfl (by kernel_rfl) (by kernel_rfl) (by kernel_rfl) (fun _ _ _ h => h) (Or.inl ⟨by rfl, ?_⟩) (by assumption) ?_
                      rotate_left 1
                      · (intro w hSw; (try dsimp only at hSw); (try simp only [List.getElem_toArray, List.getElem_cons_succ, List.getElem_cons_zero]); go_simp; (try with_reducible rfl))
                      (try simp only [Act.put, List.getElem_toArray, List.getElem_cons_succ, List.getElem_cons_zero, List.setIfInBounds_toArray, List.set_cons_zero, List.set_cons_succ])
                      refine wpAnyH_take (i := 3) (v := ?_) rfl (by kernel_rfl) (by kernel_rfl) (by kernel_rfl) (fun _ _ _ h => h) (Or.inl ⟨by rfl, ?_⟩) (by assumption) ?_
                      rotate_left 1
                      · (intro w hSw; (try dsimp only at hSw); (try simp only [List.getElem_toArray, List.getElem_cons_succ, List.getElem_cons_zero]); go_simp; (try with_reducible rfl))
                      (try simp only [Act.put, List.getElem_toArray, List.getElem_cons_succ, List.getElem_cons_zero, List.setIfInBounds_toArray, List.set_cons_zero, List.set_cons_succ])
                      refine wpAnyH_take (i := 5) (v := ?_) rfl (by kernel_rfl) (by kernel_rfl) (by kernel_rfl) (fun _ _ _ h => h) (Or.inl ⟨by rfl, ?_⟩) (by assumption) ?_
                      rotate_left 1
                      · (intro w hSw; (try dsimp only at hSw); (try simp only [List.getElem_toArray, List.getElem_cons_succ, List.getElem_cons_zero]); go_simp; (try with_reducible rfl))
                      (try simp only [Act.put, List.getElem_toArray, List.getElem_cons_succ, List.getElem_cons_zero, List.setIfInBounds_toArray, List.set_cons_zero, List.set_cons_succ])
                      refine wpAnyH_take (i := 6) (v := ?_) rfl (by kernel_rfl) (by kernel_rfl) (by kernel_rfl) (fun _ _ _ h => h) (Or.inl ⟨by rfl, ?_⟩) (by assumption) ?_
                      rotate_left 1
                      · (intro w hSw; (try dsimp only at hSw); (try simp only [List.getElem_toArray, List.getElem_cons_succ, List.getElem_cons_zero]); go_simp; (try with_reducible rfl))
                      (try simp only [Act.put, List.getElem_toArray, List.getElem_cons_succ, List.getElem_cons_zero, List.setIfInBounds_toArray, List.set_cons_zero, List.set_cons_succ])
                      refine wpAnyH_take (i := 7) (v := ?_) rfl (by kernel_rfl) (by kernel_rfl) (by kernel_rfl) (fun _ _ _ h => h) (Or.inl ⟨by rfl, ?_⟩) (by assumption) ?_
                      rotate_left 1
                      · (intro w hSw; (try dsimp only at hSw); (try simp only [List.getElem_toArray, List.getElem_cons_succ, List.getElem_cons_zero]); go_simp; (try with_reducible rfl))
                      (try simp only [Act.put, List.getElem_toArray, List.getElem_cons_succ, List.getElem_cons_zero, List.setIfInBounds_toArray, List.set_cons_zero, List.set_cons_succ])
                      refine wpAnyH_ready (rs := [1]) (by kernel_rfl) (by simp) ?_
                      refine AllReadyH.cons rfl (fun K hK => ?_) AllReadyH.nil
                      (try simp only [List.getElem_toArray, List.getElem_cons_succ, List.getElem_cons_zero])
                      go_simp
                      have cm := CoreFix.C1 (k24_mk wr.drew a (A3 := Aa) (c3 := ca) hla (Kd.C_below Ca.out hHeld.2.2.2.2.2.2.2.2))
                      change Kd.C k24 ((wr.alloc (Obj.cells #[.int .i64 a.f0, .int .i64 a.f1, .string a.f2, .slice Aa a.f3.length ca] 24)).drew) (some ⟨wr.heap.size, 0, none⟩) 1 (lamB a).f3 at cm
                      have hb : Below wr.drew.heap.size wr.drew ((wr.alloc (Obj.cells #[.int .i64 a.f0, .int .i64 a.f1, .string a.f2, .slice Aa a.f3.length ca] 24)).drew) := below_alloc (Below.refl wr.drew.heap.size wr.drew) (Obj.cells #[.int .i64 a.f0, .int .i64 a.f1, .string a.f2, .slice Aa a.f3.length ca] 24)
                      generalize (wr.alloc (Obj.cells #[.int .i64 a.f0, .int .i64 a.f1, .string a.f2, .slice Aa a.f3.length ca] 24)).drew = wv at cm hb ⊢
                      have CLM := Lib.hid cm
                      clear cm
                      refine hK.out _ _ ?_ (fun hHeld => ?_)
                      · (try dsimp only); exact CoreMay.keep8 hHeld hb
                      clear hK K
                      (try simp only [Act.put, List.getElem_toArray, List.getElem_cons_succ, List.getElem_cons_zero, List.setIfInBounds_toArray, List.set_cons_zero, List.set_cons_succ])
                      refine wpAnyH_take (i := 2) (v := ?_) rfl (by kernel_rfl) (by kernel_rfl) (by kernel_rfl) (fun _ _ _ h => h) (Or.inl ⟨by rfl, ?_⟩) (by assumption) ?_
                      rotate_left 1
                      · (intro w hSw; (try dsimp only at hSw); (try simp only [List.getElem_toArray, List.getElem_cons_succ, List.getElem_cons_zero]); go_simp; (try with_reducible rfl))
                      (try simp only [Act.put, List.getElem_toArray, List.getElem_cons_succ, List.getElem_cons_zero, List.setIfInBounds_toArray, List.set_cons_zero, List.set_cons_succ])
                      refine wpAnyH_ready (rs := [4]) (by kernel_rfl) (by simp) ?_
                      refine AllReadyH.cons rfl (fun K hK => ?_) AllReadyH.nil
                      (try simp only [List.getElem_toArray, List.getElem_cons_succ, List.getElem_cons_zero])
                      go_simp
                      refine ((CoreMay.may_any _ (lamB a) (Nat.le_refl _) (by omega) free (by have := Qd1.out; omega) (by have := Qd2.out; omega) _ _ _ CLM.out (Nat.le_refl 1)).mono fun e w' h => (⟨h.1.trans (by rw [HML.out]), h.2⟩ : e = .returned (.bool mq) ∧ _)).mono ?_
                      rintro e w9 ⟨rfl, hb⟩
                      simp only []
                      refine hK.out _ _ ?_ (fun hHeld => ?_)
                      · (try dsimp only); exact CoreMay.keep8 hHeld hb
                      clear hK K
                      (try simp only [Act.put, List.getElem_toArray, List.getElem_cons_succ, List.getElem_cons_zero, List.setIfInBounds_toArray, List.set_cons_zero, List.set_cons_succ])
                      refine wpAnyH_ready (rs := [8]) (by kernel_rfl) (by simp) ?_
                      refine AllReadyH.cons rfl (fun K hK => ?_) AllReadyH.nil
                      (try simp only [List.getElem_toArray, List.getElem_cons_succ, List.getElem_cons_zero])
                      go_simp
                      refine ((CoreMay.may_any _ a (Nat.le_refl _) (by omega) (free + 1) (by have := Qd1.out; omega) (by have := Qd2.out; omega) _ _ _ (Kd.C_below Ca.out hHeld.2.2.2.2.2.2.2.2) hla).mono fun e w' h => (⟨h.1.trans (by rw [VQ.out]), h.2⟩ : e = .returned (.bool mq) ∧ _)).mono ?_
                      rintro e w9 ⟨rfl, hb⟩
                      simp only []
                      refine hK.out _ _ ?_ (fun hHeld => ?_)
                      · (try dsimp only); exact CoreMay.keep8 hHeld hb
                      clear hK K
                      (try simp only [Act.put, List.getElem_toArray, List.getElem_cons_succ, List.getElem_cons_zero, List.setIfInBounds_toArray, List.set_cons_zero, List.set_cons_succ])
                      refine wpAnyH_take (i := 9) (v := ?_) rfl (by kernel_rfl) (by kernel_rfl) (by kernel_rfl) (fun _ _ _ h => h) (Or.inl ⟨by rfl, ?_⟩) (by assumption) ?_
                      rotate_left 1
                      · (intro w hSw; (try dsimp only at hSw); (try simp only [List.getElem_toArray, List.getElem_cons_succ, List.getElem_cons_zero]); go_simp; (try with_reducible rfl))
                      (try simp only [Act.put, List.getElem_toArray, List.getElem_cons_succ, List.getElem_cons_zero, List.setIfInBounds_toArray, List.set_cons_zero, List.set_cons_succ])
                      refine wpAnyH_take (i := 10) (v := ?_) rfl (by kernel_rfl) (by kernel_rfl) (by kernel_rfl) (fun _ _ _ h => h) (Or.inl ⟨by rfl, ?_⟩) (by assumption) ?_
                      rotate_left 1
                      · (intro w hSw; (try dsimp only at hSw); (try simp only [List.getElem_toArray, List.getElem_cons_succ, List.getElem_cons_zero]); go_simp; (try with_reducible rfl))
                      (try simp only [Act.put, List.getElem_toArray, List.getElem_cons_succ, List.getElem_cons_zero, List.setIfInBounds_toArray, List.set_cons_zero, List.set_cons_succ])
                      refine wpAnyH_done (by kernel_rfl) ?_ _
                      have HB9 := Lib.hid (below_step HB.out hHeld.2.2.2.2.2.2.2.2)
                      clear hHeld
                      go_wp2_with fail
                      go_ret
                      exact ⟨rfl, HB9.out⟩
              | false =>
                have HPQ : Hid (∀ x ∈ lst a b, may x free = false) := Lib.hid (by intro x hx; rw [may_lst a b free (by have := Qd1.out; omega) x hx, VA.out]; rfl)
                have HWL := Lib.hid (wt_lst a b); have HHL := Lib.hid (height_lst a b)
                go_wp2_with fail
                go_loopw [13] (fun i wr => ∃ k : Nat, k ≤ 4 ∧ i = .int .i64 k ∧ Hid (Below ue.heap.size ue wr)) (fun i _ => 4 - (intOf i).toNat)
                case atStart => exact ⟨0, by omega, rfl, Lib.hid (Below.refl _ _)⟩
                case round =>
                  obtain ⟨k, hk, rfl, HBR⟩ := hrel
                  have hb := HBR.out
                  have n0_ := Lib.hid (below_step HB.out hb); have nX := Lib.hid (blk_below Bx.out hb)
                  have nCa := Lib.hid (Kd.C_below Ca.out hb); have nBa := Lib.hid (blk_below Ba.out hb)
                  have nCb := Lib.hid (Kd.C_below Cb.out hb); have nBb := Lib.hid (blk_below Bb.out hb)
                  clear HB Bx Ca Ba Cb Bb hb a0 a1 a2 a3 b0 b1 b2 b3 x0 x1
                  have HB := n0_; have Bx := nX
                  have Ca := nCa; have Ba := nBa
                  have Cb := nCb; have Bb := nBb
                  clear n0_ nX nCa nBa nCb nBb
                  have a0 := blk_cell Ba.out 0
                  have a1 := blk_cell Ba.out 1
                  have a2 := blk_cell Ba.out 2
                  have a3 := blk_cell Ba.out 3
                  have b0 := blk_cell Bb.out 0
                  have b1 := blk_cell Bb.out 1
                  have b2 := blk_cell Bb.out 2
                  have b3 := blk_cell Bb.out 3
                  have x0 := blk_cell Bx.out 0; have x1 := blk_cell Bx.out 1
                  simp only [List.getElem?_toArray, List.getElem?_cons_zero, List.getElem?_cons_succ] at x0 x1 a0 a1 a2 a3 b0 b1 b2 b3
                  have nq := Lib.hid (Kd.C_below Cq.out HBR.out)
                  clear Cq
                  have Cq := nq
                  clear nq
                  have hl4 : (lst a b).length = 4 := rfl
                  by_cases hlt : k < 4
                  · obtain ⟨ad, A3, c3, he, y0, y1, y2, y3, hl3, hc3⟩ := at_T24 Cq.out (k : Int) (by omega) (by omega)
                    cases he
                    simp only [Int.toNat_natCast] at y0 y1 y2 y3
                    have hrk : rd_T24 (lst a b) (k : Int) = (lst a b)[k]'(by rw [hl4]; exact hlt) := by
                      unfold rd_T24
                      rw [Int.toNat_natCast, List.getD_eq_getElem?_getD, List.getElem?_eq_getElem (by rw [hl4]; exact hlt)]; rfl
                    rw [hrk] at y0 y1 y2 y3 hl3 hc3
                    have hmem := List.getElem_mem (l := lst a b) (n := k) (by rw [hl4]; exact hlt)
                    have hpq := HPQ.out _ hmem
                    have hwy := HWL.out _ hmem; have hhy := HHL.out _ hmem
                    generalize (lst a b)[k]'(by rw [hl4]; exact hlt) = y at *
                    have HMY := Lib.hid hpq; have Cy := Lib.hid hc3
                    clear hrk hmem hpq hc3
                    go_wp2_with fail
                    refine ((CoreMay.may_any _ y (Nat.le_refl _) (by omega) (free) (by have := Qd1.out; omega) (by have := Qd2.out; omega) _ _ _ Cy.out hl3).mono fun e w' h => (⟨h.1.trans (by rw [HMY.out]), h.2⟩ : e = .returned (.bool false) ∧ _)).mono ?_
                    rintro e w6 ⟨rfl, hb⟩
                    have HBR7 := Lib.hid (below_step HBR.out hb)
                    clear hb
                    go_wp2_with fail
                    exact ⟨⟨k + 1, by omega, by first | rfl | go_num, HBR7⟩, by simp [intOf]; omega⟩
                  · obtain ⟨mq, VQ⟩ : ∃ q, Hid (may a (free + 1) = q) := ⟨_, Lib.hid rfl⟩
                    have HML : Hid (may (lamB a) free = mq) := Lib.hid (by rw [may_lam a free (by have := Qd1.out; omega), VQ.out])
                    have hwf : IntKind.i64.wrap (free + 1) = free + 1 := CoreMay.wrap_i64_small (by have := Qd1.out; omega) (by have := Qd2.out; omega)
                    go_upto_region 16 with (fail)
                    refine wp_region_held_drew (S := (fun w' => w'.cell? ⟨w.heap.size, 0, none⟩ = some (.int .i64 a.f0) ∧ w'.cell? ⟨w.heap.size, 1, none⟩ = some (.int .i64 a.f1) ∧ w'.cell? ⟨w.heap.size, 2, none⟩ = some (.string a.f2) ∧ w'.cell? ⟨w.heap.size, 3, none⟩ = some (.slice Aa a.f3.length ca) ∧ w'.cell? ⟨w.heap.size + 1, 0, none⟩ = some (.int .i64 b.f0) ∧ w'.cell? ⟨w.heap.size + 1, 1, none⟩ = some (.int .i64 b.f1) ∧ w'.cell? ⟨w.heap.size + 1, 2, none⟩ = some (.string b.f2) ∧ w'.cell? ⟨w.heap.size + 1, 3, none⟩ = some (.slice Ab b.f3.length cb) ∧ Below wr.heap.size wr w')) (by kernel_rfl) (by (try dsimp only); exact CoreMay.keep8 ⟨a0, a1, a2, a3, b0, b1, b2, b3, Below.refl _ _⟩ (below_drew1 (Below.refl _ _))) (fun hHeld => ?_)
                    refine wpAnyH_take (i := 0) (v := ?_) rfl (by kernel_rfl) (by kernel_rfl) (by kernel_rfl) (fun _ _ _ h => h) (Or.inl ⟨by rfl, ?_⟩) (by assumption) ?_
                    rotate_left 1
                    · (intro w hSw; (try dsimp only at hSw); (try simp only [List.getElem_toArray, List.getElem_cons_succ, List.getElem_cons_zero]); go_simp; (try with_reducible rfl))
                    (try simp only [Act.put, List.getElem_toArray, List.getElem_cons_succ, List.getElem_cons_zero, List.setIfInBounds_toArray, List.set_cons_zero, List.set_cons_succ])
                    refine wpAnyH_take (i := 3) (v := ?_) rfl (by kernel_rfl) (by kernel_rfl) (by kernel_rfl) (fun _ _ _ h => h) (Or.inl ⟨by rfl, ?_⟩) (by assumption) ?_
                    rotate_left 1
                    · (intro w hSw; (try dsimp only at hSw); (try simp only [List.getElem_toArray, List.getElem_cons_succ, List.getElem_cons_zero]); go_simp; (try with_reducible rfl))
                    (try simp only [Act.put, List.getElem_toArray, List.getElem_cons_succ, List.getElem_cons_zero, List.setIfInBounds_toArray, List.set_cons_zero, List.set_cons_succ])
                    refine wpAnyH_take (i := 5) (v := ?_) rfl (by kernel_rfl) (by kernel_rfl) (by kernel_rfl) (fun _ _ _ h => h) (Or.inl ⟨by rfl, ?_⟩) (by assumption) ?_
                    rotate_left 1
                    · (intro w hSw; (try dsimp only at hSw); (try simp only [List.getElem_toArray, List.getElem_cons_succ, List.getElem_cons_zero]); go_simp; (try with_reducible rfl))
                    (try simp only [Act.put, List.getElem_toArray, List.getElem_cons_succ, List.getElem_cons_zero, List.setIfInBounds_toArray, List.set_cons_zero, List.set_cons_succ])
                    refine wpAnyH_take (i := 6) (v := ?_) rfl (by kernel_rfl) (by kernel_rfl) (by kernel_rfl) (fun _ _ _ h => h) (Or.inl ⟨by rfl, ?_⟩) (by assumption) ?_
                    rotate_left 1
                    · (intro w hSw; (try dsimp only at hSw); (try simp only [List.getElem_toArray, List.getElem_cons_succ, List.getElem_cons_zero]); go_simp; (try with_reducible rfl))
                    (try simp only [Act.put, List.getElem_toArray, List.getElem_cons_succ, List.getElem_cons_zero, List.setIfInBounds_toArray, List.set_cons_zero, List.set_cons_succ])
                    refine wpAnyH_take (i := 7) (v := ?_) rfl (by kernel_rfl) (by kernel_rfl) (by kernel_rfl) (fun _ _ _ h => h) (Or.inl ⟨by rfl, ?_⟩) (by assumption) ?_
                    rotate_left 1
                    · (intro w hSw; (try dsimp only at hSw); (try simp only [List.getElem_toArray, List.getElem_cons_succ, List.getElem_cons_zero]); go_simp; (try with_reducible rfl))
                    (try simp only [Act.put, List.getElem_toArray, List.getElem_cons_succ, List.getElem_cons_zero, List.setIfInBounds_toArray, List.set_cons_zero, List.set_cons_succ])
                    refine wpAnyH_ready (rs := [1]) (by kernel_rfl) (by simp) ?_
                    refine AllReadyH.cons rfl (fun K hK => ?_) AllReadyH.nil
                    (try simp only [List.getElem_toArray, List.getElem_cons_succ, List.getElem_cons_zero])
                    go_simp
                    have cm := CoreFix.C1 (k24_mk wr.drew a (A3 := Aa) (c3 := ca) hla (Kd.C_below Ca.out hHeld.2.2.2.2.2.2.2.2))
                    change Kd.C k24 ((wr.alloc (Obj.cells #[.int .i64 a.f0, .int .i64 a.f1, .string a.f2, .slice Aa a.f3.length ca] 24)).drew) (some ⟨wr.heap.size, 0, none⟩) 1 (lamB a).f3 at cm
                    have hb : Below wr.drew.heap.size wr.drew ((wr.alloc (Obj.cells #[.int .i64 a.f0, .int .i64 a.f1, .string a.f2, .slice Aa a.f3.length ca] 24)).drew) := below_alloc (Below.refl wr.drew.heap.size wr.drew) (Obj.cells #[.int .i64 a.f0, .int .i64 a.f1, .string a.f2, .slice Aa a.f3.length ca] 24)
                    generalize (wr.alloc (Obj.cells #[.int .i64 a.f0, .int .i64 a.f1, .string a.f2, .slice Aa a.f3.length ca] 24)).drew = wv at cm hb ⊢
                    have CLM := Lib.hid cm
                    clear cm
                    refine hK.out _ _ ?_ (fun hHeld => ?_)
                    · (try dsimp only); exact CoreMay.keep8 hHeld hb
                    clear hK K
                    (try simp only [Act.put, List.getElem_toArray, List.getElem_cons_succ, List.getElem_cons_zero, List.setIfInBounds_toArray, List.set_cons_zero, List.set_cons_succ])
                    refine wpAnyH_take (i := 2) (v := ?_) rfl (by kernel_rfl) (by kernel_rfl) (by kernel_rfl) (fun _ _ _ h => h) (Or.inl ⟨by rfl, ?_⟩) (by assumption) ?_
                    rotate_left 1
                    · (intro w hSw; (try dsimp only at hSw); (try simp only [List.getElem_toArray, List.getElem_cons_succ, List.getElem_cons_zero]); go_simp; (try with_reducible rfl))
                    (try simp only [Act.put, List.getElem_toArray, List.getElem_cons_succ, List.getElem_cons_zero, List.setIfInBounds_toArray, List.set_cons_zero, List.set_cons_succ])
                    refine wpAnyH_ready (rs := [4]) (by kernel_rfl) (by simp) ?_
                    refine AllReadyH.cons rfl (fun K hK => ?_) AllReadyH.nil
                    (try simp only [List.getElem_toArray, List.getElem_cons_succ, List.getElem_cons_zero])
                    go_simp
                    refine ((CoreMay.may_any _ (lamB a) (Nat.le_refl _) (by omega) free (by have := Qd1.out; omega) (by have := Qd2.out; omega) _ _ _ CLM.out (Nat.le_refl 1)).mono fun e w' h => (⟨h.1.trans (by rw [HML.out]), h.2⟩ : e = .returned (.bool mq) ∧ _)).mono ?_
                    rintro e w9 ⟨rfl, hb⟩
                    simp only []
                    refine hK.out _ _ ?_ (fun hHeld => ?_)
                    · (try dsimp only); exact CoreMay.keep8 hHeld hb
                    clear hK K
                    (try simp only [Act.put, List.getElem_toArray, List.getElem_cons_succ, List.getElem_cons_zero, List.setIfInBounds_toArray, List.set_cons_zero, List.set_cons_succ])
                    refine wpAnyH_ready (rs := [8]) (by kernel_rfl) (by simp) ?_
                    refine AllReadyH.cons rfl (fun K hK => ?_) AllReadyH.nil
                    (try simp only [List.getElem_toArray, List.getElem_cons_succ, List.getElem_cons_zero])
                    go_simp
                    refine ((CoreMay.may_any _ a (Nat.le_refl _) (by omega) (free + 1) (by have := Qd1.out; omega) (by have := Qd2.out; omega) _ _ _ (Kd.C_below Ca.out hHeld.2.2.2.2.2.2.2.2) hla).mono fun e w' h => (⟨h.1.trans (by rw [VQ.out]), h.2⟩ : e = .returned (.bool mq) ∧ _)).mono ?_
                    rintro e w9 ⟨rfl, hb⟩
                    simp only []
                    refine hK.out _ _ ?_ (fun hHeld => ?_)
                    · (try dsimp only); exact CoreMay.keep8 hHeld hb
                    clear hK K
                    (try simp only [Act.put, List.getElem_toArray, List.getElem_cons_succ, List.getElem_cons_zero, List.setIfInBounds_toArray, List.set_cons_zero, List.set_cons_succ])
                    refine wpAnyH_take (i := 9) (v := ?_) rfl (by kernel_rfl) (by kernel_rfl) (by kernel_rfl) (fun _ _ _ h => h) (Or.inl ⟨by rfl, ?_⟩) (by assumption) ?_
                    rotate_left 1
                    · (intro w hSw; (try dsimp only at hSw); (try simp only [List.getElem_toArray, List.getElem_cons_succ, List.getElem_cons_zero]); go_simp; (try with_reducible rfl))
                    (try simp only [Act.put, List.getElem_toArray, List.getElem_cons_succ, List.getElem_cons_zero, List.setIfInBounds_toArray, List.set_cons_zero, List.set_cons_succ])
                    refine wpAnyH_take (i := 10) (v := ?_) rfl (by kernel_rfl) (by kernel_rfl) (by kernel_rfl) (fun _ _ _ h => h) (Or.inl ⟨by rfl, ?_⟩) (by assumption) ?_
                    rotate_left 1
                    · (intro w hSw; (try dsimp only at hSw); (try simp only [List.getElem_toArray, List.getElem_cons_succ, List.getElem_cons_zero]); go_simp; (try with_reducible rfl))
                    (try simp only [Act.put, List.getElem_toArray, List.getElem_cons_succ, List.getElem_cons_zero, List.setIfInBounds_toArray, List.set_cons_zero, List.set_cons_succ])
                    refine wpAnyH_done (by kernel_rfl) ?_ _
                    have HB9 := Lib.hid (below_step HB.out hHeld.2.2.2.2.2.2.2.2)
                    clear hHeld
                    go_wp2_with fail
                    go_ret
                    exact ⟨rfl, HB9.out⟩
            · have dh : decide (n < free) = false := decide_eq_false q
              have QH := Lib.hid q
              clear q
              have HV : Hid (may (varB n) free = false) := Lib.hid (by rw [may_var, decide_eq_true QL.out, decide_eq_false QH.out]; rfl)
              have HAL : Hid (may (altB b) free = false) := Lib.hid rfl
              go_wp2_with fail
              refine ((CoreMay.may_any _ (varB n) (Nat.le_refl _) (by show (0 + 1 + 0 ≤ _); omega) (free) (by have := Qd1.out; omega) (by have := Qd2.out; have hv : height (varB n) = 1 := rfl; omega) _ _ _ (CoreFix.C0 _) (Nat.le_refl 0)).mono fun e w' h => (⟨h.1.trans (by rw [HV.out]), h.2⟩ : e = .returned (.bool false) ∧ _)).mono ?_
              rintro e w5 ⟨rfl, hb⟩
              have nL := Lib.hid (Kd.C_below Cl.out hb); have nM := Lib.hid (blk_below Bl.out hb)
              clear Cl Bl l0 l1 l2 l3
              have Cl := nL; have Bl := nM
              clear nL nM
              have l0 := blk_cell Bl.out 0; have l1 := blk_cell Bl.out 1; have l2 := blk_cell Bl.out 2; have l3 := blk_cell Bl.out 3
              simp only [List.getElem?_toArray, List.getElem?_cons_zero, List.getElem?_cons_succ] at l0 l1 l2 l3
              have n0_ := Lib.hid (below_step HB.out hb); have nX := Lib.hid (blk_below Bx.out hb)
              have nCa := Lib.hid (Kd.C_below Ca.out hb); have nBa := Lib.hid (blk_below Ba.out hb)
              have nCb := Lib.hid (Kd.C_below Cb.out hb); have nBb := Lib.hid (blk_below Bb.out hb)
              clear HB Bx Ca Ba Cb Bb hb a0 a1 a2 a3 b0 b1 b2 b3 x0 x1
              have HB := n0_; have Bx := nX
              have Ca := nCa; have Ba := nBa
              have Cb := nCb; have Bb := nBb
              clear n0_ nX nCa nBa nCb nBb
              have a0 := blk_cell Ba.out 0
              have a1 := blk_cell Ba.out 1
              have a2 := blk_cell Ba.out 2
              have a3 := blk_cell Ba.out 3
              have b0 := blk_cell Bb.out 0
              have b1 := blk_cell Bb.out 1
              have b2 := blk_cell Bb.out 2
              have b3 := blk_cell Bb.out 3
              have x0 := blk_cell Bx.out 0; have x1 := blk_cell Bx.out 1
              simp only [List.getElem?_toArray, List.getElem?_cons_zero, List.getElem?_cons_succ] at x0 x1 a0 a1 a2 a3 b0 b1 b2 b3
              go_wp2_with fail
              refine ((CoreMay.may_any _ (altB b) (Nat.le_refl _) (by omega) (free) (by have := Qd1.out; omega) (by have := Qd2.out; omega) _ _ _ Cl.out (Nat.le_refl 1)).mono fun e w' h => (⟨h.1.trans (by rw [HAL.out]), h.2⟩ : e = .returned (.bool false) ∧ _)).mono ?_
              rintro e w5 ⟨rfl, hb⟩
              have nL := Lib.hid (Kd.C_below Cl.out hb); have nM := Lib.hid (blk_below Bl.out hb)
              clear Cl Bl l0 l1 l2 l3
              have Cl := nL; have Bl := nM
              clear nL nM
              have l0 := blk_cell Bl.out 0; have l1 := blk_cell Bl.out 1; have l2 := blk_cell Bl.out 2; have l3 := blk_cell Bl.out 3
              simp only [List.getElem?_toArray, List.getElem?_cons_zero, List.getElem?_cons_succ] at l0 l1 l2 l3
              have n0_ := Lib.hid (below_step HB.out hb); have nX := Lib.hid (blk_below Bx.out hb)
              have nCa := Lib.hid (Kd.C_below Ca.out hb); have nBa := Lib.hid (blk_below Ba.out hb)
              have nCb := Lib.hid (Kd.C_below Cb.out hb); have nBb := Lib.hid (blk_below Bb.out hb)
              clear HB Bx Ca Ba Cb Bb hb a0 a1 a2 a3 b0 b1 b2 b3 x0 x1
              have HB := n0_; have Bx := nX
              have Ca := nCa; have Ba := nBa
              have Cb := nCb; have Bb := nBb
              clear n0_ nX nCa nBa nCb nBb
              have a0 := blk_cell Ba.out 0
              have a1 := blk_cell Ba.out 1
              have a2 := blk_cell Ba.out 2
              have a3 := blk_cell Ba.out 3
              have b0 := blk_cell Bb.out 0
              have b1 := blk_cell Bb.out 1
              have b2 := blk_cell Bb.out 2
              have b3 := blk_cell Bb.out 3
              have x0 := blk_cell Bx.out 0; have x1 := blk_cell Bx.out 1
              simp only [List.getElem?_toArray, List.getElem?_cons_zero, List.getElem?_cons_succ] at x0 x1 a0 a1 a2 a3 b0 b1 b2 b3
              have f1a0 := fun (o0 : Obj) => ((below_alloc (Below.refl w5.heap.size w5) o0).cell (World.block_lt_of_cell? _ _ a0)).trans a0
              have f1a1 := fun (o0 : Obj) => ((below_alloc (Below.refl w5.heap.size w5) o0).cell (World.block_lt_of_cell? _ _ a1)).trans a1
              have f1a2 := fun (o0 : Obj) => ((below_alloc (Below.refl w5.heap.size w5) o0).cell (World.block_lt_of_cell? _ _ a2)).trans a2
              have f1a3 := fun (o0 : Obj) => ((below_alloc (Below.refl w5.heap.size w5) o0).cell (World.block_lt_of_cell? _ _ a3)).trans a3
              have f1b0 := fun (o0 : Obj) => ((below_alloc (Below.refl w5.heap.size w5) o0).cell (World.block_lt_of_cell? _ _ b0)).trans b0
              have f1b1 := fun (o0 : Obj) => ((below_alloc (Below.refl w5.heap.size w5) o0).cell (World.block_lt_of_cell? _ _ b1)).trans b1
              have f1b2 := fun (o0 : Obj) => ((below_alloc (Below.refl w5.heap.size w5) o0).cell (World.block_lt_of_cell? _ _ b2)).trans b2
              have f1b3 := fun (o0 : Obj) => ((below_alloc (Below.refl w5.heap.size w5) o0).cell (World.block_lt_of_cell? _ _ b3)).trans b3
              have f2a0 := fun (o0 : Obj) (o1 : Obj) => ((below_step (below_alloc (Below.refl w5.heap.size w5) o0) (below_alloc (Below.refl (w5.alloc o0).heap.size (w5.alloc o0)) o1)).cell (World.block_lt_of_cell? _ _ a0)).trans a0
              have f2a1 := fun (o0 : Obj) (o1 : Obj) => ((below_step (below_alloc (Below.refl w5.heap.size w5) o0) (below_alloc (Below.refl (w5.alloc o0).heap.size (w5.alloc o0)) o1)).cell (World.block_lt_of_cell? _ _ a1)).trans a1
              have f2a2 := fun (o0 : Obj) (o1 : Obj) => ((below_step (below_alloc (Below.refl w5.heap.size w5) o0) (below_alloc (Below.refl (w5.alloc o0).heap.size (w5.alloc o0)) o1)).cell (World.block_lt_of_cell? _ _ a2)).trans a2
              have f2a3 := fun (o0 : Obj) (o1 : Obj) => ((below_step (below_alloc (Below.refl w5.heap.size w5) o0) (below_alloc (Below.refl (w5.alloc o0).heap.size (w5.alloc o0)) o1)).cell (World.block_lt_of_cell? _ _ a3)).trans a3
              have f2b0 := fun (o0 : Obj) (o1 : Obj) => ((below_step (below_alloc (Below.refl w5.heap.size w5) o0) (below_alloc (Below.refl (w5.alloc o0).heap.size (w5.alloc o0)) o1)).cell (World.block_lt_of_cell? _ _ b0)).trans b0
              have f2b1 := fun (o0 : Obj) (o1 : Obj) => ((below_step (below_alloc (Below.refl w5.heap.size w5) o0) (below_alloc (Below.refl (w5.alloc o0).heap.size (w5.alloc o0)) o1)).cell (World.block_lt_of_cell? _ _ b1)).trans b1
              have f2b2 := fun (o0 : Obj) (o1 : Obj) => ((below_step (below_alloc (Below.refl w5.heap.size w5) o0) (below_alloc (Below.refl (w5.alloc o0).heap.size (w5.alloc o0)) o1)).cell (World.block_lt_of_cell? _ _ b2)).trans b2
              have f2b3 := fun (o0 : Obj) (o1 : Obj) => ((below_step (below_alloc (Below.refl w5.heap.size w5) o0) (below_alloc (Below.refl (w5.alloc o0).heap.size (w5.alloc o0)) o1)).cell (World.block_lt_of_cell? _ _ b3)).trans b3
              have f3a0 := fun (o0 : Obj) (o1 : Obj) (o2 : Obj) => ((below_step (below_step (below_alloc (Below.refl w5.heap.size w5) o0) (below_alloc (Below.refl (w5.alloc o0).heap.size (w5.alloc o0)) o1)) (below_alloc (Below.refl ((w5.alloc o0).alloc o1).heap.size ((w5.alloc o0).alloc o1)) o2)).cell (World.block_lt_of_cell? _ _ a0)).trans a0
              have f3a1 := fun (o0 : Obj) (o1 : Obj) (o2 : Obj) => ((below_step (below_step (below_alloc (Below.refl w5.heap.size w5) o0) (below_alloc (Below.refl (w5.alloc o0).heap.size (w5.alloc o0)) o1)) (below_alloc (Below.refl ((w5.alloc o0).alloc o1).heap.size ((w5.alloc o0).alloc o1)) o2)).cell (World.block_lt_of_cell? _ _ a1)).trans a1
              have f3a2 := fun (o0 : Obj) (o1 : Obj) (o2 : Obj) => ((below_step (below_step (below_alloc (Below.refl w5.heap.size w5) o0) (below_alloc (Below.refl (w5.alloc o0).heap.size (w5.alloc o0)) o1)) (below_alloc (Below.refl ((w5.alloc o0).alloc o1).heap.size ((w5.alloc o0).alloc o1)) o2)).cell (World.block_lt_of_cell? _ _ a2)).trans a2
              have f3a3 := fun (o0 : Obj) (o1 : Obj) (o2 : Obj) => ((below_step (below_step (below_alloc (Below.refl w5.heap.size w5) o0) (below_alloc (Below.refl (w5.alloc o0).heap.size (w5.alloc o0)) o1)) (below_alloc (Below.refl ((w5.alloc o0).alloc o1).heap.size ((w5.alloc o0).alloc o1)) o2)).cell (World.block_lt_of_cell? _ _ a3)).trans a3
              have f3l0 := fun (o0 : Obj) (o1 : Obj) (o2 : Obj) => ((below_step (below_step (below_alloc (Below.refl w5.heap.size w5) o0) (below_alloc (Below.refl (w5.alloc o0).heap.size (w5.alloc o0)) o1)) (below_alloc (Below.refl ((w5.alloc o0).alloc o1).heap.size ((w5.alloc o0).alloc o1)) o2)).cell (World.block_lt_of_cell? _ _ l0)).trans l0
              have f3l1 := fun (o0 : Obj) (o1 : Obj) (o2 : Obj) => ((below_step (below_step (below_alloc (Below.refl w5.heap.size w5) o0) (below_alloc (Below.refl (w5.alloc o0).heap.size (w5.alloc o0)) o1)) (below_alloc (Below.refl ((w5.alloc o0).alloc o1).heap.size ((w5.alloc o0).alloc o1)) o2)).cell (World.block_lt_of_cell? _ _ l1)).trans l1
              have f3l2 := fun (o0 : Obj) (o1 : Obj) (o2 : Obj) => ((below_step (below_step (below_alloc (Below.refl w5.heap.size w5) o0) (below_alloc (Below.refl (w5.alloc o0).heap.size (w5.alloc o0)) o1)) (below_alloc (Below.refl ((w5.alloc o0).alloc o1).heap.size ((w5.alloc o0).alloc o1)) o2)).cell (World.block_lt_of_cell? _ _ l2)).trans l2
              have f3l3 := fun (o0 : Obj) (o1 : Obj) (o2 : Obj) => ((below_step (below_step (below_alloc (Below.refl w5.heap.size w5) o0) (below_alloc (Below.refl (w5.alloc o0).heap.size (w5.alloc o0)) o1)) (below_alloc (Below.refl ((w5.alloc o0).alloc o1).heap.size ((w5.alloc o0).alloc o1)) o2)).cell (World.block_lt_of_cell? _ _ l3)).trans l3
              go_upto_region 11 with (fail)
              clear f1a0 f1a1 f1a2 f1a3 f1b0 f1b1 f1b2 f1b3 f2a0 f2a1 f2a2 f2a3 f2b0 f2b1 f2b2 f2b3 f3a0 f3a1 f3a2 f3a3 f3l0 f3l1 f3l2 f3l3
              have CaT := Ca; have CbT := Cb; have ClT := Cl
              have HBT := Lib.hid (Below.refl w5.heap.size w5)
              have cr0 := CoreFix.C2 (k24_mk w5 a (A3 := Aa) (c3 := ca) hla (CaT.out)) (k24_mk w5 b (A3 := Ab) (c3 := cb) hlb (CbT.out))
              change Kd.C k24 (w5.alloc (Obj.cells #[.int .i64 a.f0, .int .i64 a.f1, .string a.f2, .slice Aa a.f3.length ca, .int .i64 b.f0, .int .i64 b.f1, .string b.f2, .slice Ab b.f3.length cb] 24)) _ 2 [a, b] at cr0
              have hr := below_alloc (Below.refl w5.heap.size w5) (Obj.cells #[.int .i64 a.f0, .int .i64 a.f1, .string a.f2, .slice Aa a.f3.length ca, .int .i64 b.f0, .int .i64 b.f1, .string b.f2, .slice Ab b.f3.length cb] 24)
              have sr0 := World.size_alloc w5 (Obj.cells #[.int .i64 a.f0, .int .i64 a.f1, .string a.f2, .slice Aa a.f3.length ca, .int .i64 b.f0, .int .i64 b.f1, .string b.f2, .slice Ab b.f3.length cb] 24)
              generalize w5.alloc (Obj.cells #[.int .i64 a.f0, .int .i64 a.f1, .string a.f2, .slice Aa a.f3.length ca, .int .i64 b.f0, .int .i64 b.f1, .string b.f2, .slice Ab b.f3.length cb] 24) = ua at cr0 hr sr0 ⊢
              have CR0 := Lib.hid cr0
              clear cr0
              have nA := Lib.hid (Kd.C_below CaT.out hr); have nB := Lib.hid (Kd.C_below CbT.out hr); have nL := Lib.hid (Kd.C_below ClT.out hr); have nT := Lib.hid (below_step HBT.out hr)
              clear CaT CbT ClT HBT hr 
              have CaT := nA; have CbT := nB; have ClT := nL; have HBT := nT
              clear nA nB nL nT 
              have cr1 := CoreFix.C2 (k24_mk ua a (A3 := Aa) (c3 := ca) hla (CaT.out)) (k24_mk ua b (A3 := Ab) (c3 := cb) hlb (CbT.out))
              change Kd.C k24 (ua.alloc (Obj.cells #[.int .i64 a.f0, .int .i64 a.f1, .string a.f2, .slice Aa a.f3.length ca, .int .i64 b.f0, .int .i64 b.f1, .string b.f2, .slice Ab b.f3.length cb] 24)) _ 2 [a, b] at cr1
              have hr := below_alloc (Below.refl ua.heap.size ua) (Obj.cells #[.int .i64 a.f0, .int .i64 a.f1, .string a.f2, .slice Aa a.f3.length ca, .int .i64 b.f0, .int .i64 b.f1, .string b.f2, .slice Ab b.f3.length cb] 24)
              have sr1 := World.size_alloc ua (Obj.cells #[.int .i64 a.f0, .int .i64 a.f1, .string a.f2, .slice Aa a.f3.length ca, .int .i64 b.f0, .int .i64 b.f1, .string b.f2, .slice Ab b.f3.length cb] 24)
              generalize ua.alloc (Obj.cells #[.int .i64 a.f0, .int .i64 a.f1, .string a.f2, .slice Aa a.f3.length ca, .int .i64 b.f0, .int .i64 b.f1, .string b.f2, .slice Ab b.f3.length cb] 24) = ub at cr1 hr sr1 ⊢
              rw [sr0] at cr1
              have CR1 := Lib.hid cr1
              clear cr1
              have nA := Lib.hid (Kd.C_below CaT.out hr); have nB := Lib.hid (Kd.C_below CbT.out hr); have nL := Lib.hid (Kd.C_below ClT.out hr); have nT := Lib.hid (below_step HBT.out hr)
              have nR0 := Lib.hid (Kd.C_below CR0.out hr)
              clear CaT CbT ClT HBT hr CR0
              have CaT := nA; have CbT := nB; have ClT := nL; have HBT := nT
              have CR0 := nR0
              clear nA nB nL nT nR0
              have cr2 := CoreFix.C2 (k24_mk ub a (A3 := Aa) (c3 := ca) hla (CaT.out)) (k24_mk ub b (A3 := Ab) (c3 := cb) hlb (CbT.out))
              change Kd.C k24 (ub.alloc (Obj.cells #[.int .i64 a.f0, .int .i64 a.f1, .string a.f2, .slice Aa a.f3.length ca, .int .i64 b.f0, .int .i64 b.f1, .string b.f2, .slice Ab b.f3.length cb] 24)) _ 2 [a, b] at cr2
              have hr := below_alloc (Below.refl ub.heap.size ub) (Obj.cells #[.int .i64 a.f0, .int .i64 a.f1, .string a.f2, .slice Aa a.f3.length ca, .int .i64 b.f0, .int .i64 b.f1, .string b.f2, .slice Ab b.f3.length cb] 24)
              have sr2 := World.size_alloc ub (Obj.cells #[.int .i64 a.f0, .int .i64 a.f1, .string a.f2, .slice Aa a.f3.length ca, .int .i64 b.f0, .int .i64 b.f1, .string b.f2, .slice Ab b.f3.length cb] 24)
              generalize ub.alloc (Obj.cells #[.int .i64 a.f0, .int .i64 a.f1, .string a.f2, .slice Aa a.f3.length ca, .int .i64 b.f0, .int .i64 b.f1, .string b.f2, .slice Ab b.f3.length cb] 24) = uc at cr2 hr sr2 ⊢
              rw [sr1, sr0] at cr2
              have CR2 := Lib.hid cr2
              clear cr2
              have nA := Lib.hid (Kd.C_below CaT.out hr); have nB := Lib.hid (Kd.C_below CbT.out hr); have nL := Lib.hid (Kd.C_below ClT.out hr); have nT := Lib.hid (below_step HBT.out hr)
              have nR0 := Lib.hid (Kd.C_below CR0.out hr)
              have nR1 := Lib.hid (Kd.C_below CR1.out hr)
              clear CaT CbT ClT HBT hr CR0 CR1
              have CaT := nA; have CbT := nB; have ClT := nL; have HBT := nT
              have CR0 := nR0
              have CR1 := nR1
              clear nA nB nL nT nR0 nR1
              have cr3 := CoreFix.C2 (k24_mk uc a (A3 := Aa) (c3 := ca) hla (CaT.out)) (k24_mk uc (altB b) (A3 := some ⟨g9, 0, none⟩) (c3 := 1) (Nat.le_refl 1) (ClT.out))
              change Kd.C k24 (uc.alloc (Obj.cells #[.int .i64 a.f0, .int .i64 a.f1, .string a.f2, .slice Aa a.f3.length ca, .int .i64 6, .int .i64 0, .string ⟨#[65]⟩, .slice (some ⟨g9, 0, none⟩) 1 1] 24)) _ 2 [a, altB b] at cr3
              have hr := below_alloc (Below.refl uc.heap.size uc) (Obj.cells #[.int .i64 a.f0, .int .i64 a.f1, .string a.f2, .slice Aa a.f3.length ca, .int .i64 6, .int .i64 0, .string ⟨#[65]⟩, .slice (some ⟨g9, 0, none⟩) 1 1] 24)
              have sr3 := World.size_alloc uc (Obj.cells #[.int .i64 a.f0, .int .i64 a.f1, .string a.f2, .slice Aa a.f3.length ca, .int .i64 6, .int .i64 0, .string ⟨#[65]⟩, .slice (some ⟨g9, 0, none⟩) 1 1] 24)
              generalize uc.alloc (Obj.cells #[.int .i64 a.f0, .int .i64 a.f1, .string a.f2, .slice Aa a.f3.length ca, .int .i64 6, .int .i64 0, .string ⟨#[65]⟩, .slice (some ⟨g9, 0, none⟩) 1 1] 24) = ud at cr3 hr sr3 ⊢
              rw [sr2, sr1, sr0] at cr3
              have CR3 := Lib.hid cr3
              clear cr3
              have nA := Lib.hid (Kd.C_below CaT.out hr); have nB := Lib.hid (Kd.C_below CbT.out hr); have nL := Lib.hid (Kd.C_below ClT.out hr); have nT := Lib.hid (below_step HBT.out hr)
              have nR0 := Lib.hid (Kd.C_below CR0.out hr)
              have nR1 := Lib.hid (Kd.C_below CR1.out hr)
              have nR2 := Lib.hid (Kd.C_below CR2.out hr)
              clear CaT CbT ClT HBT hr CR0 CR1 CR2
              have CaT := nA; have CbT := nB; have ClT := nL; have HBT := nT
              have CR0 := nR0
              have CR1 := nR1
              have CR2 := nR2
              clear nA nB nL nT nR0 nR1 nR2
              have cr4 := C4 (k24_mk ud (tA a b) (A3 := some ⟨w5.heap.size, 0, none⟩) (c3 := 2) (Nat.le_refl 2) CR0.out) (k24_mk ud (tC a b) (A3 := some ⟨w5.heap.size + 1, 0, none⟩) (c3 := 2) (Nat.le_refl 2) CR1.out) (k24_mk ud (tO a b) (A3 := some ⟨w5.heap.size + 1 + 1, 0, none⟩) (c3 := 2) (Nat.le_refl 2) CR2.out) (k24_mk ud (tK a b) (A3 := some ⟨w5.heap.size + 1 + 1 + 1, 0, none⟩) (c3 := 2) (Nat.le_refl 2) CR3.out)
              change Kd.C k24 (ud.alloc (Obj.cells #[.int .i64 3, .int .i64 0, .string ⟨#[]⟩, .slice (some ⟨w5.heap.size, 0, none⟩) 2 2, .int .i64 4, .int .i64 0, .string ⟨#[65]⟩, .slice (some ⟨w5.heap.size + 1, 0, none⟩) 2 2, .int .i64 8, .int .i64 0, .string ⟨#[60]⟩, .slice (some ⟨w5.heap.size + 1 + 1, 0, none⟩) 2 2, .int .i64 5, .int .i64 0, .string ⟨#[]⟩, .slice (some ⟨w5.heap.size + 1 + 1 + 1, 0, none⟩) 2 2] 24)) _ 4 (lst a b) at cr4
              have hr := below_alloc (Below.refl ud.heap.size ud) (Obj.cells #[.int .i64 3, .int .i64 0, .string ⟨#[]⟩, .slice (some ⟨w5.heap.size, 0, none⟩) 2 2, .int .i64 4, .int .i64 0, .string ⟨#[65]⟩, .slice (some ⟨w5.heap.size + 1, 0, none⟩) 2 2, .int .i64 8, .int .i64 0, .string ⟨#[60]⟩, .slice (some ⟨w5.heap.size + 1 + 1, 0, none⟩) 2 2, .int .i64 5, .int .i64 0, .string ⟨#[]⟩, .slice (some ⟨w5.heap.size + 1 + 1 + 1, 0, none⟩) 2 2] 24)
              rw [sr3, sr2, sr1, sr0] at cr4
              generalize ud.alloc (Obj.cells #[.int .i64 3, .int .i64 0, .string ⟨#[]⟩, .slice (some ⟨w5.heap.size, 0, none⟩) 2 2, .int .i64 4, .int .i64 0, .string ⟨#[65]⟩, .slice (some ⟨w5.heap.size + 1, 0, none⟩) 2 2, .int .i64 8, .int .i64 0, .string ⟨#[60]⟩, .slice (some ⟨w5.heap.size + 1 + 1, 0, none⟩) 2 2, .int .i64 5, .int .i64 0, .string ⟨#[]⟩, .slice (some ⟨w5.heap.size + 1 + 1 + 1, 0, none⟩) 2 2] 24) = ue at cr4 hr ⊢
              have Cq := Lib.hid cr4
              have hb := below_step HBT.out hr
              clear cr4 hr HBT CaT CbT ClT CR0 CR1 CR2 CR3 sr0 sr1 sr2 sr3
              have nL := Lib.hid (Kd.C_below Cl.out hb); have nM := Lib.hid (blk_below Bl.out hb)
              clear Cl Bl l0 l1 l2 l3
              have Cl := nL; have Bl := nM
              clear nL nM
              have l0 := blk_cell Bl.out 0; have l1 := blk_cell Bl.out 1; have l2 := blk_cell Bl.out 2; have l3 := blk_cell Bl.out 3
              simp only [List.getElem?_toArray, List.getElem?_cons_zero, List.getElem?_cons_succ] at l0 l1 l2 l3
              have n0_ := Lib.hid (below_step HB.out hb); have nX := Lib.hid (blk_below Bx.out hb)
              have nCa := Lib.hid (Kd.C_below Ca.out hb); have nBa := Lib.hid (blk_below Ba.out hb)
              have nCb := Lib.hid (Kd.C_below Cb.out hb); have nBb := Lib.hid (blk_below Bb.out hb)
              clear HB Bx Ca Ba Cb Bb hb a0 a1 a2 a3 b0 b1 b2 b3 x0 x1
              have HB := n0_; have Bx := nX
              have Ca := nCa; have Ba := nBa
              have Cb := nCb; have Bb := nBb
              clear n0_ nX nCa nBa nCb nBb
              have a0 := blk_cell Ba.out 0
              have a1 := blk_cell Ba.out 1
              have a2 := blk_cell Ba.out 2
              have a3 := blk_cell Ba.out 3
              have b0 := blk_cell Bb.out 0
              have b1 := blk_cell Bb.out 1
              have b2 := blk_cell Bb.out 2
              have b3 := blk_cell Bb.out 3
              have x0 := blk_cell Bx.out 0; have x1 := blk_cell Bx.out 1
              simp only [List.getElem?_toArray, List.getElem?_cons_zero, List.getElem?_cons_succ] at x0 x1 a0 a1 a2 a3 b0 b1 b2 b3
              clear Cl Bl l0 l1 l2 l3
              have Cq0 := Cq.out
              clear Cq
              generalize w5.heap.size = g5 at *
              generalize (⟨g5 + 1 + 1 + 1 + 1, 0, none⟩ : Addr) = adq at Cq0 ⊢
              have Cq := Lib.hid Cq0
              clear Cq0
              cases ma with
              | true =>
                cases mb with
                | true =>
                  have HPQ : Hid (∀ x ∈ lst a b, may x free = true) := Lib.hid (by intro x hx; rw [may_lst a b free (by have := Qd1.out; omega) x hx, VA.out, VB.out]; rfl)
                  have HWL := Lib.hid (wt_lst a b); have HHL := Lib.hid (height_lst a b)
                  go_wp2_with fail
                  go_loopw [13] (fun i wr => ∃ k : Nat, k ≤ 4 ∧ i = .int .i64 k ∧ Hid (Below ue.heap.size ue wr)) (fun i _ => 4 - (intOf i).toNat)
                  case atStart => exact ⟨0, by omega, rfl, Lib.hid (Below.refl _ _)⟩
                  case round =>
                    obtain ⟨k, hk, rfl, HBR⟩ := hrel
                    have hb := HBR.out
                    have n0_ := Lib.hid (below_step HB.out hb); have nX := Lib.hid (blk_below Bx.out hb)
                    have nCa := Lib.hid (Kd.C_below Ca.out hb); have nBa := Lib.hid (blk_below Ba.out hb)
                    have nCb := Lib.hid (Kd.C_below Cb.out hb); have nBb := Lib.hid (blk_below Bb.out hb)
                    clear HB Bx Ca Ba Cb Bb hb a0 a1 a2 a3 b0 b1 b2 b3 x0 x1
                    have HB := n0_; have Bx := nX
                    have Ca := nCa; have Ba := nBa
                    have Cb := nCb; have Bb := nBb
                    clear n0_ nX nCa nBa nCb nBb
                    have a0 := blk_cell Ba.out 0
                    have a1 := blk_cell Ba.out 1
                    have a2 := blk_cell Ba.out 2
                    have a3 := blk_cell Ba.out 3
                    have b0 := blk_cell Bb.out 0
                    have b1 := blk_cell Bb.out 1
                    have b2 := blk_cell Bb.out 2
                    have b3 := blk_cell Bb.out 3
                    have x0 := blk_cell Bx.out 0; have x1 := blk_cell Bx.out 1
                    simp only [List.getElem?_toArray, List.getElem?_cons_zero, List.getElem?_cons_succ] at x0 x1 a0 a1 a2 a3 b0 b1 b2 b3
                    have nq := Lib.hid (Kd.C_below Cq.out HBR.out)
                    clear Cq
                    have Cq := nq
                    clear nq
                    have hl4 : (lst a b).length = 4 := rfl
                    by_cases hlt : k < 4
                    · obtain ⟨ad, A3, c3, he, y0, y1, y2, y3, hl3, hc3⟩ := at_T24 Cq.out (k : Int) (by omega) (by omega)
                      cases he
                      simp only [Int.toNat_natCast] at y0 y1 y2 y3
                      have hrk : rd_T24 (lst a b) (k : Int) = (lst a b)[k]'(by rw [hl4]; exact hlt) := by
                        unfold rd_T24
                        rw [Int.toNat_natCast, List.getD_eq_getElem?_getD, List.getElem?_eq_getElem (by rw [hl4]; exact hlt)]; rfl
                      rw [hrk] at y0 y1 y2 y3 hl3 hc3
                      have hmem := List.getElem_mem (l := lst a b) (n := k) (by rw [hl4]; exact hlt)
                      have hpq := HPQ.out _ hmem
                      have hwy := HWL.out _ hmem; have hhy := HHL.out _ hmem
                      generalize (lst a b)[k]'(by rw [hl4]; exact hlt) = y at *
                      have HMY := Lib.hid hpq; have Cy := Lib.hid hc3
                      clear hrk hmem hpq hc3
                      go_wp2_with fail
                      refine ((CoreMay.may_any _ y (Nat.le_refl _) (by omega) (free) (by have := Qd1.out; omega) (by have := Qd2.out; omega) _ _ _ Cy.out hl3).mono fun e w' h => (⟨h.1.trans (by rw [HMY.out]), h.2⟩ : e = .returned (.bool true) ∧ _)).mono ?_
                      rintro e w6 ⟨rfl, hb⟩
                      have HBR7 := Lib.hid (below_step HBR.out hb)
                      clear hb
                      go_wp2_with fail
                      exact ⟨⟨k + 1, by omega, by first | rfl | go_num, HBR7⟩, by simp [intOf]; omega⟩
                    · obtain ⟨mq, VQ⟩ : ∃ q, Hid (may a (free + 1) = q) := ⟨_, Lib.hid rfl⟩
                      have HML : Hid (may (lamB a) free = mq) := Lib.hid (by rw [may_lam a free (by have := Qd1.out; omega), VQ.out])
                      have hwf : IntKind.i64.wrap (free + 1) = free + 1 := CoreMay.wrap_i64_small (by have := Qd1.out; omega) (by have := Qd2.out; omega)
                      go_upto_region 16 with (fail)
                      refine wp_region_held_drew (S := (fun w' => w'.cell? ⟨w.heap.size, 0, none⟩ = some (.int .i64 a.f0) ∧ w'.cell? ⟨w.heap.size, 1, none⟩ = some (.int .i64 a.f1) ∧ w'.cell? ⟨w.heap.size, 2, none⟩ = some (.string a.f2) ∧ w'.cell? ⟨w.heap.size, 3, none⟩ = some (.slice Aa a.f3.length ca) ∧ w'.cell? ⟨w.heap.size + 1, 0, none⟩ = some (.int .i64 b.f0) ∧ w'.cell? ⟨w.heap.size + 1, 1, none⟩ = some (.int .i64 b.f1) ∧ w'.cell? ⟨w.heap.size + 1, 2, none⟩ = some (.string b.f2) ∧ w'.cell? ⟨w.heap.size + 1, 3, none⟩ = some (.slice Ab b.f3.length cb) ∧ Below wr.heap.size wr w')) (by kernel_rfl) (by (try dsimp only); exact CoreMay.keep8 ⟨a0, a1, a2, a3, b0, b1, b2, b3, Below.refl _ _⟩ (below_drew1 (Below.refl _ _))) (fun hHeld => ?_)
                      refine wpAnyH_take (i := 0) (v := ?_) rfl (by kernel_rfl) (by kernel_rfl) (by kernel_rfl) (fun _ _ _ h => h) (Or.inl ⟨by rfl, ?_⟩) (by assumption) ?_
                      rotate_left 1
                      · (intro w hSw; (try dsimp only at hSw); (try simp only [List.getElem_toArray, List.getElem_cons_succ, List.getElem_cons_zero]); go_simp; (try with_reducible rfl))
                      (try simp only [Act.put, List.getElem_toArray, List.getElem_cons_succ, List.getElem_cons_zero, List.setIfInBounds_toArray, List.set_cons_zero, List.set_cons_succ])
                      refine wpAnyH_take (i := 3) (v := ?_) rfl (by kernel_rfl) (by kernel_rfl) (by kernel_rfl) (fun _ _ _ h => h) (Or.inl ⟨by rfl, ?_⟩) (by assumption) ?_
                      rotate_left 1
                      · (intro w hSw; (try dsimp only at hSw); (try simp only [List.getElem_toArray, List.getElem_cons_succ, List.getElem_cons_zero]); go_simp; (try with_reducible rfl))
                      (try simp only [Act.put, List.getElem_toArray, List.getElem_cons_succ, List.getElem_cons_zero, List.setIfInBounds_toArray, List.set_cons_zero, List.set_cons_succ])
                      refine wpAnyH_take (i := 5) (v := ?_) rfl (by kernel_rfl) (by kernel_rfl) (by kernel_rfl) (fun _ _ _ h => h) (Or.inl ⟨by rfl, ?_⟩) (by assumption) ?_
                      rotate_left 1
                      · (intro w hSw; (try dsimp only at hSw); (try simp only [List.getElem_toArray, List.getElem_cons_succ, List.getElem_cons_zero]); go_simp; (try with_reducible rfl))
                      (try simp only [Act.put, List.getElem_toArray, List.getElem_cons_succ, List.getElem_cons_zero, List.setIfInBounds_toArray, List.set_cons_zero, List.set_cons_succ])
                      refine wpAnyH_take (i := 6) (v := ?_) rfl (by kernel_rfl) (by kernel_rfl) (by kernel_rfl) (fun _ _ _ h => h) (Or.inl ⟨by rfl, ?_⟩) (by assumption) ?_
                      rotate_left 1
                      · (intro w hSw; (try dsimp only at hSw); (try simp only [List.getElem_toArray, List.getElem_cons_succ, List.getElem_cons_zero]); go_simp; (try with_reducible rfl))
                      (try simp only [Act.put, List.getElem_toArray, List.getElem_cons_succ, List.getElem_cons_zero, List.setIfInBounds_toArray, List.set_cons_zero, List.set_cons_succ])
                      refine wpAnyH_take (i := 7) (v := ?_) rfl (by kernel_rfl) (by kernel_rfl) (by kernel_rfl) (fun _ _ _ h => h) (Or.inl ⟨by rfl, ?_⟩) (by assumption) ?_
                      rotate_left 1
                      · (intro w hSw; (try dsimp only at hSw); (try simp only [List.getElem_toArray, List.getElem_cons_succ, List.getElem_cons_zero]); go_simp; (try with_reducible rfl))
                      (try simp only [Act.put, List.getElem_toArray, List.getElem_cons_succ, List.getElem_cons_zero, List.setIfInBounds_toArray, List.set_cons_zero, List.set_cons_succ])
                      refine wpAnyH_ready (rs := [1]) (by kernel_rfl) (by simp) ?_
                      refine AllReadyH.cons rfl (fun K hK => ?_) AllReadyH.nil
                      (try simp only [List.getElem_toArray, List.getElem_cons_succ, List.getElem_cons_zero])
                      go_simp
                      have cm := CoreFix.C1 (k24_mk wr.drew a (A3 := Aa) (c3 := ca) hla (Kd.C_below Ca.out hHeld.2.2.2.2.2.2.2.2))
                      change Kd.C k24 ((wr.alloc (Obj.cells #[.int .i64 a.f0, .int .i64 a.f1, .string a.f2, .slice Aa a.f3.length ca] 24)).drew) (some ⟨wr.heap.size, 0, none⟩) 1 (lamB a).f3 at cm
                      have hb : Below wr.drew.heap.size wr.drew ((wr.alloc (Obj.cells #[.int .i64 a.f0, .int .i64 a.f1, .string a.f2, .slice Aa a.f3.length ca] 24)).drew) := below_alloc (Below.refl wr.drew.heap.size wr.drew) (Obj.cells #[.int .i64 a.f0, .int .i64 a.f1, .string a.f2, .slice Aa a.f3.length ca] 24)
                      generalize (wr.alloc (Obj.cells #[.int .i64 a.f0, .int .i64 a.f1, .string a.f2, .slice Aa a.f3.length ca] 24)).drew = wv at cm hb ⊢
                      have CLM := Lib.hid cm
                      clear cm
                      refine hK.out _ _ ?_ (fun hHeld => ?_)
                      · (try dsimp only); exact CoreMay.keep8 hHeld hb
                      clear hK K
                      (try simp only [Act.put, List.getElem_toArray, List.getElem_cons_succ, List.getElem_cons_zero, List.setIfInBounds_toArray, List.set_cons_zero, List.set_cons_succ])
                      refine wpAnyH_take (i := 2) (v := ?_) rfl (by kernel_rfl) (by kernel_rfl) (by kernel_rfl) (fun _ _ _ h => h) (Or.inl ⟨by rfl, ?_⟩) (by assumption) ?_
                      rotate_left 1
                      · (intro w hSw; (try dsimp only at hSw); (try simp only [List.getElem_toArray, List.getElem_cons_succ, List.getElem_cons_zero]); go_simp; (try with_reducible rfl))
                      (try simp only [Act.put, List.getElem_toArray, List.getElem_cons_succ, List.getElem_cons_zero, List.setIfInBounds_toArray, List.set_cons_zero, List.set_cons_succ])
                      refine wpAnyH_ready (rs := [4]) (by kernel_rfl) (by simp) ?_
                      refine AllReadyH.cons rfl (fun K hK => ?_) AllReadyH.nil
                      (try simp only [List.getElem_toArray, List.getElem_cons_succ, List.getElem_cons_zero])
                      go_simp
                      refine ((CoreMay.may_any _ (lamB a) (Nat.le_refl _) (by omega) free (by have := Qd1.out; omega) (by have := Qd2.out; omega) _ _ _ CLM.out (Nat.le_refl 1)).mono fun e w' h => (⟨h.1.trans (by rw [HML.out]), h.2⟩ : e = .returned (.bool mq) ∧ _)).mono ?_
                      rintro e w9 ⟨rfl, hb⟩
                      simp only []
                      refine hK.out _ _ ?_ (fun hHeld => ?_)
                      · (try dsimp only); exact CoreMay.keep8 hHeld hb
                      clear hK K
                      (try simp only [Act.put, List.getElem_toArray, List.getElem_cons_succ, List.getElem_cons_zero, List.setIfInBounds_toArray, List.set_cons_zero, List.set_cons_succ])
                      refine wpAnyH_ready (rs := [8]) (by kernel_rfl) (by simp) ?_
                      refine AllReadyH.cons rfl (fun K hK => ?_) AllReadyH.nil
                      (try simp only [List.getElem_toArray, List.getElem_cons_succ, List.getElem_cons_zero])
                      go_simp
                      refine ((CoreMay.may_any _ a (Nat.le_refl _) (by omega) (free + 1) (by have := Qd1.out; omega) (by have := Qd2.out; omega) _ _ _ (Kd.C_below Ca.out hHeld.2.2.2.2.2.2.2.2) hla).mono fun e w' h => (⟨h.1.trans (by rw [VQ.out]), h.2⟩ : e = .returned (.bool mq) ∧ _)).mono ?_
                      rintro e w9 ⟨rfl, hb⟩
                      simp only []
                      refine hK.out _ _ ?_ (fun hHeld => ?_)
                      · (try dsimp only); exact CoreMay.keep8 hHeld hb
                      clear hK K
                      (try simp only [Act.put, List.getElem_toArray, List.getElem_cons_succ, List.getElem_cons_zero, List.setIfInBounds_toArray, List.set_cons_zero, List.set_cons_succ])
                      refine wpAnyH_take (i := 9) (v := ?_) rfl (by kernel_rfl) (by kernel_rfl) (by kernel_rfl) (fun _ _ _ h => h) (Or.inl ⟨by rfl, ?_⟩) (by assumption) ?_
                      rotate_left 1
                      · (intro w hSw; (try dsimp only at hSw); (try simp only [List.getElem_toArray, List.getElem_cons_succ, List.getElem_cons_zero]); go_simp; (try with_reducible rfl))
                      (try simp only [Act.put, List.getElem_toArray, List.getElem_cons_succ, List.getElem_cons_zero, List.setIfInBounds_toArray, List.set_cons_zero, List.set_cons_succ])
                      refine wpAnyH_take (i := 10) (v := ?_) rfl (by kernel_rfl) (by kernel_rfl) (by kernel_rfl) (fun _ _ _ h => h) (Or.inl ⟨by rfl, ?_⟩) (by assumption) ?_
                      rotate_left 1
                      · (intro w hSw; (try dsimp only at hSw); (try simp only [List.getElem_toArray, List.getElem_cons_succ, List.getElem_cons_zero]); go_simp; (try with_reducible rfl))
                      (try simp only [Act.put, List.getElem_toArray, List.getElem_cons_succ, List.getElem_cons_zero, List.setIfInBounds_toArray, List.set_cons_zero, List.set_cons_succ])
                      refine wpAnyH_done (by kernel_rfl) ?_ _
                      have HB9 := Lib.hid (below_step HB.out hHeld.2.2.2.2.2.2.2.2)
                      clear hHeld
                      go_wp2_with fail
                      go_ret
                      exact ⟨rfl, HB9.out⟩
                | false =>
                  have HPQ : Hid (∀ x ∈ lst a b, may x free = false) := Lib.hid (by intro x hx; rw [may_lst a b free (by have := Qd1.out; omega) x hx, VA.out, VB.out]; rfl)
                  have HWL := Lib.hid (wt_lst a b); have HHL := Lib.hid (height_lst a b)
                  go_wp2_with fail
                  go_loopw [13] (fun i wr => ∃ k : Nat, k ≤ 4 ∧ i = .int .i64 k ∧ Hid (Below ue.heap.size ue wr)) (fun i _ => 4 - (intOf i).toNat)
                  case atStart => exact ⟨0, by omega, rfl, Lib.hid (Below.refl _ _)⟩
                  case round =>
                    obtain ⟨k, hk, rfl, HBR⟩ := hrel
                    have hb := HBR.out
                    have n0_ := Lib.hid (below_step HB.out hb); have nX := Lib.hid (blk_below Bx.out hb)
                    have nCa := Lib.hid (Kd.C_below Ca.out hb); have nBa := Lib.hid (blk_below Ba.out hb)
                    have nCb := Lib.hid (Kd.C_below Cb.out hb); have nBb := Lib.hid (blk_below Bb.out hb)
                    clear HB Bx Ca Ba Cb Bb hb a0 a1 a2 a3 b0 b1 b2 b3 x0 x1
                    have HB := n0_; have Bx := nX
                    have Ca := nCa; have Ba := nBa
                    have Cb := nCb; have Bb := nBb
                    clear n0_ nX nCa nBa nCb nBb
                    have a0 := blk_cell Ba.out 0
                    have a1 := blk_cell Ba.out 1
                    have a2 := blk_cell Ba.out 2
                    have a3 := blk_cell Ba.out 3
                    have b0 := blk_cell Bb.out 0
                    have b1 := blk_cell Bb.out 1
                    have b2 := blk_cell Bb.out 2
                    have b3 := blk_cell Bb.out 3
                    have x0 := blk_cell Bx.out 0; have x1 := blk_cell Bx.out 1
                    simp only [List.getElem?_toArray, List.getElem?_cons_zero, List.getElem?_cons_succ] at x0 x1 a0 a1 a2 a3 b0 b1 b2 b3
                    have nq := Lib.hid (Kd.C_below Cq.out HBR.out)
                    clear Cq
                    have Cq := nq
                    clear nq
                    have hl4 : (lst a b).length = 4 := rfl
                    by_cases hlt : k < 4
                    · obtain ⟨ad, A3, c3, he, y0, y1, y2, y3, hl3, hc3⟩ := at_T24 Cq.out (k : Int) (by omega) (by omega)
                      cases he
                      simp only [Int.toNat_natCast] at y0 y1 y2 y3
                      have hrk : rd_T24 (lst a b) (k : Int) = (lst a b)[k]'(by rw [hl4]; exact hlt) := by
                        unfold rd_T24
                        rw [Int.toNat_natCast, List.getD_eq_getElem?_getD, List.getElem?_eq_getElem (by rw [hl4]; exact hlt)]; rfl
                      rw [hrk] at y0 y1 y2 y3 hl3 hc3
                      have hmem := List.getElem_mem (l := lst a b) (n := k) (by rw [hl4]; exact hlt)
                      have hpq := HPQ.out _ hmem
                      have hwy := HWL.out _ hmem; have hhy := HHL.out _ hmem
                      generalize (lst a b)[k]'(by rw [hl4]; exact hlt) = y at *
                      have HMY := Lib.hid hpq; have Cy := Lib.hid hc3
                      clear hrk hmem hpq hc3
                      go_wp2_with fail
                      refine ((CoreMay.may_any _ y (Nat.le_refl _) (by omega) (free) (by have := Qd1.out; omega) (by have := Qd2.out; omega) _ _ _ Cy.out hl3).mono fun e w' h => (⟨h.1.trans (by rw [HMY.out]), h.2⟩ : e = .returned (.bool false) ∧ _)).mono ?_
                      rintro e w6 ⟨rfl, hb⟩
                      have HBR7 := Lib.hid (below_step HBR.out hb)
                      clear hb
                      go_wp2_with fail
                      exact ⟨⟨k + 1, by omega, by first | rfl | go_num, HBR7⟩, by simp [intOf]; omega⟩
                    · obtain ⟨mq, VQ⟩ : ∃ q, Hid (may a (free + 1) = q) := ⟨_, Lib.hid rfl⟩
                      have HML : Hid (may (lamB a) free = mq) := Lib.hid (by rw [may_lam a free (by have := Qd1.out; omega), VQ.out])
                      have hwf : IntKind.i64.wrap (free + 1) = free + 1 := CoreMay.wrap_i64_small (by have := Qd1.out; omega) (by have := Qd2.out; omega)
                      go_upto_region 16 with (fail)
                      refine wp_region_held_drew (S := (fun w' => w'.cell? ⟨w.heap.size, 0, none⟩ = some (.int .i64 a.f0) ∧ w'.cell? ⟨w.heap.size, 1, none⟩ = some (.int .i64 a.f1) ∧ w'.cell? ⟨w.heap.size, 2, none⟩ = some (.string a.f2) ∧ w'.cell? ⟨w.heap.size, 3, none⟩ = some (.slice Aa a.f3.length ca) ∧ w'.cell? ⟨w.heap.size + 1, 0, none⟩ = some (.int .i64 b.f0) ∧ w'.cell? ⟨w.heap.size + 1, 1, none⟩ = some (.int .i64 b.f1) ∧ w'.cell? ⟨w.heap.size + 1, 2, none⟩ = some (.string b.f2) ∧ w'.cell? ⟨w.heap.size + 1, 3, none⟩ = some (.slice Ab b.f3.length cb) ∧ Below wr.heap.size wr w')) (by kernel_rfl) (by (try dsimp only); exact CoreMay.keep8 ⟨a0, a1, a2, a3, b0, b1, b2, b3, Below.refl _ _⟩ (below_drew1 (Below.refl _ _))) (fun hHeld => ?_)
                      refine wpAnyH_take (i := 0) (v := ?_) rfl (by kernel_rfl) (by kernel_rfl) (by kernel_rfl) (fun _ _ _ h => h) (Or.inl ⟨by rfl, ?_⟩) (by assumption) ?_
                      rotate_left 1
                      · (intro w hSw; (try dsimp only at hSw); (try simp only [List.getElem_toArray, List.getElem_cons_succ, List.getElem_cons_zero]); go_simp; (try with_reducible rfl))
                      (try simp only [Act.put, List.getElem_toArray, List.getElem_cons_succ, List.getElem_cons_zero, List.setIfInBounds_toArray, List.set_cons_zero, List.set_cons_succ])
                      refine wpAnyH_take (i := 3) (v := ?_) rfl (by kernel_rfl) (by kernel_rfl) (by kernel_rfl) (fun _ _ _ h => h) (Or.inl ⟨by rfl, ?_⟩) (by assumption) ?_
                      rotate_left 1
                      · (intro w hSw; (try dsimp only at hSw); (try simp only [List.getElem_toArray, List.getElem_cons_succ, List.getElem_cons_zero]); go_simp; (try with_reducible rfl))
                      (try simp only [Act.put, List.getElem_toArray, List.getElem_cons_succ, List.getElem_cons_zero, List.setIfInBounds_toArray, List.set_cons_zero, List.set_cons_succ])
                      refine wpAnyH_take (i := 5) (v := ?_) rfl (by kernel_rfl) (by kernel_rfl) (by kernel_rfl) (fun _ _ _ h => h) (Or.inl ⟨by rfl, ?_⟩) (by assumption) ?_
                      rotate_left 1
                      · (intro w hSw; (try dsimp only at hSw); (try simp only [List.getElem_toArray, List.getElem_cons_succ, List.getElem_cons_zero]); go_simp; (try with_reducible rfl))
                      (try simp only [Act.put, List.getElem_toArray, List.getElem_cons_succ, List.getElem_cons_zero, List.setIfInBounds_toArray, List.set_cons_zero, List.set_cons_succ])
                      refine wpAnyH_take (i := 6) (v := ?_) rfl (by kernel_rfl) (by kernel_rfl) (by kernel_rfl) (fun _ _ _ h => h) (Or.inl ⟨by rfl, ?_⟩) (by assumption) ?_
                      rotate_left 1
                      · (intro w hSw; (try dsimp only at hSw); (try simp only [List.getElem_toArray, List.getElem_cons_succ, List.getElem_cons_zero]); go_simp; (try with_reducible rfl))
                      (try simp only [Act.put, List.getElem_toArray, List.getElem_cons_succ, List.getElem_cons_zero, List.setIfInBounds_toArray, List.set_cons_zero, List.set_cons_succ])
                      refine wpAnyH_take (i := 7) (v := ?_) rfl (by kernel_rfl) (by kernel_rfl) (by kernel_rfl) (fun _ _ _ h => h) (Or.inl ⟨by rfl, ?_⟩) (by assumption) ?_
                      rotate_left 1
                      · (intro w hSw; (try dsimp only at hSw); (try simp only [List.getElem_toArray, List.getElem_cons_succ, List.getElem_cons_zero]); go_simp; (try with_reducible rfl))
                      (try simp only [Act.put, List.getElem_toArray, List.getElem_cons_succ, List.getElem_cons_zero, List.setIfInBounds_toArray, List.set_cons_zero, List.set_cons_succ])
                      refine wpAnyH_ready (rs := [1]) (by kernel_rfl) (by simp) ?_
                      refine AllReadyH.cons rfl (fun K hK => ?_) AllReadyH.nil
                      (try simp only [List.getElem_toArray, List.getElem_cons_succ, List.getElem_cons_zero])
                      go_simp
                      have cm := CoreFix.C1 (k24_mk wr.drew a (A3 := Aa) (c3 := ca) hla (Kd.C_below Ca.out hHeld.2.2.2.2.2.2.2.2))
                      change Kd.C k24 ((wr.alloc (Obj.cells #[.int .i64 a.f0, .int .i64 a.f1, .string a.f2, .slice Aa a.f3.length ca] 24)).drew) (some ⟨wr.heap.size, 0, none⟩) 1 (lamB a).f3 at cm
                      have hb : Below wr.drew.heap.size wr.drew ((wr.alloc (Obj.cells #[.int .i64 a.f0, .int .i64 a.f1, .string a.f2, .slice Aa a.f3.length ca] 24)).drew) := below_alloc (Below.refl wr.drew.heap.size wr.drew) (Obj.cells #[.int .i64 a.f0, .int .i64 a.f1, .string a.f2, .slice Aa a.f3.length ca] 24)
                      generalize (wr.alloc (Obj.cells #[.int .i64 a.f0, .int .i64 a.f1, .string a.f2, .slice Aa a.f3.length ca] 24)).drew = wv at cm hb ⊢
                      have CLM := Lib.hid cm
                      clear cm
                      refine hK.out _ _ ?_ (fun hHeld => ?_)
                      · (try dsimp only); exact CoreMay.keep8 hHeld hb
                      clear hK K
                      (try simp only [Act.put, List.getElem_toArray, List.getElem_cons_succ, List.getElem_cons_zero, List.setIfInBounds_toArray, List.set_cons_zero, List.set_cons_succ])
                      refine wpAnyH_take (i := 2) (v := ?_) rfl (by kernel_rfl) (by kernel_rfl) (by kernel_rfl) (fun _ _ _ h => h) (Or.inl ⟨by rfl, ?_⟩) (by assumption) ?_
                      rotate_left 1
                      · (intro w hSw; (try dsimp only at hSw); (try simp only [List.getElem_toArray, List.getElem_cons_succ, List.getElem_cons_zero]); go_simp; (try with_reducible rfl))
                      (try simp only [Act.put, List.getElem_toArray, List.getElem_cons_succ, List.getElem_cons_zero, List.setIfInBounds_toArray, List.set_cons_zero, List.set_cons_succ])
                      refine wpAnyH_ready (rs := [4]) (by kernel_rfl) (by simp) ?_
                      refine AllReadyH.cons rfl (fun K hK => ?_) AllReadyH.nil
                      (try simp only [List.getElem_toArray, List.getElem_cons_succ, List.getElem_cons_zero])
                      go_simp
                      refine ((CoreMay.may_any _ (lamB a) (Nat.le_refl _) (by omega) free (by have := Qd1.out; omega) (by have := Qd2.out; omega) _ _ _ CLM.out (Nat.le_refl 1)).mono fun e w' h => (⟨h.1.trans (by rw [HML.out]), h.2⟩ : e = .returned (.bool mq) ∧ _)).mono ?_
                      rintro e w9 ⟨rfl, hb⟩
                      simp only []
                      refine hK.out _ _ ?_ (fun hHeld => ?_)
                      · (try dsimp only); exact CoreMay.keep8 hHeld hb
                      clear hK K
                      (try simp only [Act.put, List.getElem_toArray, List.getElem_cons_succ, List.getElem_cons_zero, List.setIfInBounds_toArray, List.set_cons_zero, List.set_cons_succ])
                      refine wpAnyH_ready (rs := [8]) (by kernel_rfl) (by simp) ?_
                      refine AllReadyH.cons rfl (fun K hK => ?_) AllReadyH.nil
                      (try simp only [List.getElem_toArray, List.getElem_cons_succ, List.getElem_cons_zero])
                      go_simp
                      refine ((CoreMay.may_any _ a (Nat.le_refl _) (by omega) (free + 1) (by have := Qd1.out; omega) (by have := Qd2.out; omega) _ _ _ (Kd.C_below Ca.out hHeld.2.2.2.2.2.2.2.2) hla).mono fun e w' h => (⟨h.1.trans (by rw [VQ.out]), h.2⟩ : e = .returned (.bool mq) ∧ _)).mono ?_
                      rintro e w9 ⟨rfl, hb⟩
                      simp only []
                      refine hK.out _ _ ?_ (fun hHeld => ?_)
                      · (try dsimp only); exact CoreMay.keep8 hHeld hb
                      clear hK K
                      (try simp only [Act.put, List.getElem_toArray, List.getElem_cons_succ, List.getElem_cons_zero, List.setIfInBounds_toArray, List.set_cons_zero, List.set_cons_succ])
                      refine wpAnyH_take (i := 9) (v := ?_) rfl (by kernel_rfl) (by kernel_rfl) (by kernel_rfl) (fun _ _ _ h => h) (Or.inl ⟨by rfl, ?_⟩) (by assumption) ?_
                      rotate_left 1
                      · (intro w hSw; (try dsimp only at hSw); (try simp only [List.getElem_toArray, List.getElem_cons_succ, List.getElem_cons_zero]); go_simp; (try with_reducible rfl))
                      (try simp only [Act.put, List.getElem_toArray, List.getElem_cons_succ, List.getElem_cons_zero, List.setIfInBounds_toArray, List.set_cons_zero, List.set_cons_succ])
                      refine wpAnyH_take (i := 10) (v := ?_) rfl (by kernel_rfl) (by kernel_rfl) (by kernel_rfl) (fun _ _ _ h => h) (Or.inl ⟨by rfl, ?_⟩) (by assumption) ?_
                      rotate_left 1
                      · (intro w hSw; (try dsimp only at hSw); (try simp only [List.getElem_toArray, List.getElem_cons_succ, List.getElem_cons_zero]); go_simp; (try with_reducible rfl))
                      (try simp only [Act.put, List.getElem_toArray, List.getElem_cons_succ, List.getElem_cons_zero, List.setIfInBounds_toArray, List.set_cons_zero, List.set_cons_succ])
                      refine wpAnyH_done (by kernel_rfl) ?_ _
                      have HB9 := Lib.hid (below_step HB.out hHeld.2.2.2.2.2.2.2.2)
                      clear hHeld
                      go_wp2_with fail
                      go_ret
                      exact ⟨rfl, HB9.out⟩
              | false =>
                have HPQ : Hid (∀ x ∈ lst a b, may x free = false) := Lib.hid (by intro x hx; rw [may_lst a b free (by have := Qd1.out; omega) x hx, VA.out]; rfl)
                have HWL := Lib.hid (wt_lst a b); have HHL := Lib.hid (height_lst a b)
                go_wp2_with fail
                go_loopw [13] (fun i wr => ∃ k : Nat, k ≤ 4 ∧ i = .int .i64 k ∧ Hid (Below ue.heap.size ue wr)) (fun i _ => 4 - (intOf i).toNat)
                case atStart => exact ⟨0, by omega, rfl, Lib.hid (Below.refl _ _)⟩
                case round =>
                  obtain ⟨k, hk, rfl, HBR⟩ := hrel
                  have hb := HBR.out
                  have n0_ := Lib.hid (below_step HB.out hb); have nX := Lib.hid (blk_below Bx.out hb)
                  have nCa := Lib.hid (Kd.C_below Ca.out hb); have nBa := Lib.hid (blk_below Ba.out hb)
                  have nCb := Lib.hid (Kd.C_below Cb.out hb); have nBb := Lib.hid (blk_below Bb.out hb)
                  clear HB Bx Ca Ba Cb Bb hb a0 a1 a2 a3 b0 b1 b2 b3 x0 x1
                  have HB := n0_; have Bx := nX
                  have Ca := nCa; have Ba := nBa
                  have Cb := nCb; have Bb := nBb
                  clear n0_ nX nCa nBa nCb nBb
                  have a0 := blk_cell Ba.out 0
                  have a1 := blk_cell Ba.out 1
                  have a2 := blk_cell Ba.out 2
                  have a3 := blk_cell Ba.out 3
                  have b0 := blk_cell Bb.out 0
                  have b1 := blk_cell Bb.out 1
                  have b2 := blk_cell Bb.out 2
                  have b3 := blk_cell Bb.out 3
                  have x0 := blk_cell Bx.out 0; have x1 := blk_cell Bx.out 1
                  simp only [List.getElem?_toArray, List.getElem?_cons_zero, List.getElem?_cons_succ] at x0 x1 a0 a1 a2 a3 b0 b1 b2 b3
                  have nq := Lib.hid (Kd.C_below Cq.out HBR.out)
                  clear Cq
                  have Cq := nq
                  clear nq
                  have hl4 : (lst a b).length = 4 := rfl
                  by_cases hlt : k < 4
                  · obtain ⟨ad, A3, c3, he, y0, y1, y2, y3, hl3, hc3⟩ := at_T24 Cq.out (k : Int) (by omega) (by omega)
                    cases he
                    simp only [Int.toNat_natCast] at y0 y1 y2 y3
                    have hrk : rd_T24 (lst a b) (k : Int) = (lst a b)[k]'(by rw [hl4]; exact hlt) := by
                      unfold rd_T24
                      rw [Int.toNat_natCast, List.getD_eq_getElem?_getD, List.getElem?_eq_getElem (by rw [hl4]; exact hlt)]; rfl
                    rw [hrk] at y0 y1 y2 y3 hl3 hc3
                    have hmem := List.getElem_mem (l := lst a b) (n := k) (by rw [hl4]; exact hlt)
                    have hpq := HPQ.out _ hmem
                    have hwy := HWL.out _ hmem; have hhy := HHL.out _ hmem
                    generalize (lst a b)[k]'(by rw [hl4]; exact hlt) = y at *
                    have HMY := Lib.hid hpq; have Cy := Lib.hid hc3
                    clear hrk hmem hpq hc3
                    go_wp2_with fail
                    refine ((CoreMay.may_any _ y (Nat.le_refl _) (by omega) (free) (by have := Qd1.out; omega) (by have := Qd2.out; omega) _ _ _ Cy.out hl3).mono fun e w' h => (⟨h.1.trans (by rw [HMY.out]), h.2⟩ : e = .returned (.bool false) ∧ _)).mono ?_
                    rintro e w6 ⟨rfl, hb⟩
                    have HBR7 := Lib.hid (below_step HBR.out hb)
                    clear hb
                    go_wp2_with fail
                    exact ⟨⟨k + 1, by omega, by first | rfl | go_num, HBR7⟩, by simp [intOf]; omega⟩
                  · obtain ⟨mq, VQ⟩ : ∃ q, Hid (may a (free + 1) = q) := ⟨_, Lib.hid rfl⟩
                    have HML : Hid (may (lamB a) free = mq) := Lib.hid (by rw [may_lam a free (by have := Qd1.out; omega), VQ.out])
                    have hwf : IntKind.i64.wrap (free + 1) = free + 1 := CoreMay.wrap_i64_small (by have := Qd1.out; omega) (by have := Qd2.out; omega)
                    go_upto_region 16 with (fail)
                    refine wp_region_held_drew (S := (fun w' => w'.cell? ⟨w.heap.size, 0, none⟩ = some (.int .i64 a.f0) ∧ w'.cell? ⟨w.heap.size, 1, none⟩ = some (.int .i64 a.f1) ∧ w'.cell? ⟨w.heap.size, 2, none⟩ = some (.string a.f2) ∧ w'.cell? ⟨w.heap.size, 3, none⟩ = some (.slice Aa a.f3.length ca) ∧ w'.cell? ⟨w.heap.size + 1, 0, none⟩ = some (.int .i64 b.f0) ∧ w'.cell? ⟨w.heap.size + 1, 1, none⟩ = some (.int .i64 b.f1) ∧ w'.cell? ⟨w.heap.size + 1, 2, none⟩ = some (.string b.f2) ∧ w'.cell? ⟨w.heap.size + 1, 3, none⟩ = some (.slice Ab b.f3.length cb) ∧ Below wr.heap.size wr w')) (by kernel_rfl) (by (try dsimp only); exact CoreMay.keep8 ⟨a0, a1, a2, a3, b0, b1, b2, b3, Below.refl _ _⟩ (below_drew1 (Below.refl _ _))) (fun hHeld => ?_)
                    refine wpAnyH_take (i := 0) (v := ?_) rfl (by kernel_rfl) (by kernel_rfl) (by kernel_rfl) (fun _ _ _ h => h) (Or.inl ⟨by rfl, ?_⟩) (by assumption) ?_
                    rotate_left 1
                    · (intro w hSw; (try dsimp only at hSw); (try simp only [List.getElem_toArray, List.getElem_cons_succ, List.getElem_cons_zero]); go_simp; (try with_reducible rfl))
                    (try simp only [Act.put, List.getElem_toArray, List.getElem_cons_succ, List.getElem_cons_zero, List.setIfInBounds_toArray, List.set_cons_zero, List.set_cons_succ])
                    refine wpAnyH_take (i := 3) (v := ?_) rfl (by kernel_rfl) (by kernel_rfl) (by kernel_rfl) (fun _ _ _ h => h) (Or.inl ⟨by rfl, ?_⟩) (by assumption) ?_
                    rotate_left 1
                    · (intro w hSw; (try dsimp only at hSw); (try simp only [List.getElem_toArray, List.getElem_cons_succ, List.getElem_cons_zero]); go_simp; (try with_reducible rfl))
                    (try simp only [Act.put, List.getElem_toArray, List.getElem_cons_succ, List.getElem_cons_zero, List.setIfInBounds_toArray, List.set_cons_zero, List.set_cons_succ])
                    refine wpAnyH_take (i := 5) (v := ?_) rfl (by kernel_rfl) (by kernel_rfl) (by kernel_rfl) (fun _ _ _ h => h) (Or.inl ⟨by rfl, ?_⟩) (by assumption) ?_
                    rotate_left 1
                    · (intro w hSw; (try dsimp only at hSw); (try simp only [List.getElem_toArray, List.getElem_cons_succ, List.getElem_cons_zero]); go_simp; (try with_reducible rfl))
                    (try simp only [Act.put, List.getElem_toArray, List.getElem_cons_succ, List.getElem_cons_zero, List.setIfInBounds_toArray, List.set_cons_zero, List.set_cons_succ])
                    refine wpAnyH_take (i := 6) (v := ?_) rfl (by kernel_rfl) (by kernel_rfl) (by kernel_rfl) (fun _ _ _ h => h) (Or.inl ⟨by rfl, ?_⟩) (by assumption) ?_
                    rotate_left 1
                    · (intro w hSw; (try dsimp only at hSw); (try simp only [List.getElem_toArray, List.getElem_cons_succ, List.getElem_cons_zero]); go_simp; (try with_reducible rfl))
                    (try simp only [Act.put, List.getElem_toArray, List.getElem_cons_succ, List.getElem_cons_zero, List.setIfInBounds_toArray, List.set_cons_zero, List.set_cons_succ])
                    refine wpAnyH_take (i := 7) (v := ?_) rfl (by kernel_rfl) (by kernel_rfl) (by kernel_rfl) (fun _ _ _ h => h) (Or.inl ⟨by rfl, ?_⟩) (by assumption) ?_
                    rotate_left 1
                    · (intro w hSw; (try dsimp only at hSw); (try simp only [List.getElem_toArray, List.getElem_cons_succ, List.getElem_cons_zero]); go_simp; (try with_reducible rfl))
                    (try simp only [Act.put, List.getElem_toArray, List.getElem_cons_succ, List.getElem_cons_zero, List.setIfInBounds_toArray, List.set_cons_zero, List.set_cons_succ])
                    refine wpAnyH_ready (rs := [1]) (by kernel_rfl) (by simp) ?_
                    refine AllReadyH.cons rfl (fun K hK => ?_) AllReadyH.nil
                    (try simp only [List.getElem_toArray, List.getElem_cons_succ, List.getElem_cons_zero])
                    go_simp
                    have cm := CoreFix.C1 (k24_mk wr.drew a (A3 := Aa) (c3 := ca) hla (Kd.C_below Ca.out hHeld.2.2.2.2.2.2.2.2))
                    change Kd.C k24 ((wr.alloc (Obj.cells #[.int .i64 a.f0, .int .i64 a.f1, .string a.f2, .slice Aa a.f3.length ca] 24)).drew) (some ⟨wr.heap.size, 0, none⟩) 1 (lamB a).f3 at cm
                    have hb : Below wr.drew.heap.size wr.drew ((wr.alloc (Obj.cells #[.int .i64 a.f0, .int .i64 a.f1, .string a.f2, .slice Aa a.f3.length ca] 24)).drew) := below_alloc (Below.refl wr.drew.heap.size wr.drew) (Obj.cells #[.int .i64 a.f0, .int .i64 a.f1, .string a.f2, .slice Aa a.f3.length ca] 24)
                    generalize (wr.alloc (Obj.cells #[.int .i64 a.f0, .int .i64 a.f1, .string a.f2, .slice Aa a.f3.length ca] 24)).drew = wv at cm hb ⊢
                    have CLM := Lib.hid cm
                    clear cm
                    refine hK.out _ _ ?_ (fun hHeld => ?_)
                    · (try dsimp only); exact CoreMay.keep8 hHeld hb
                    clear hK K
                    (try simp only [Act.put, List.getElem_toArray, List.getElem_cons_succ, List.getElem_cons_zero, List.setIfInBounds_toArray, List.set_cons_zero, List.set_cons_succ])
                    refine wpAnyH_take (i := 2) (v := ?_) rfl (by kernel_rfl) (by kernel_rfl) (by kernel_rfl) (fun _ _ _ h => h) (Or.inl ⟨by rfl, ?_⟩) (by assumption) ?_
                    rotate_left 1
                    · (intro w hSw; (try dsimp only at hSw); (try simp only [List.getElem_toArray, List.getElem_cons_succ, List.getElem_cons_zero]); go_simp; (try with_reducible rfl))
                    (try simp only [Act.put, List.getElem_toArray, List.getElem_cons_succ, List.getElem_cons_zero, List.setIfInBounds_toArray, List.set_cons_zero, List.set_cons_succ])
                    refine wpAnyH_ready (rs := [4]) (by kernel_rfl) (by simp) ?_
                    refine AllReadyH.cons rfl (fun K hK => ?_) AllReadyH.nil
                    (try simp only [List.getElem_toArray, List.getElem_cons_succ, List.getElem_cons_zero])
                    go_simp
                    refine ((CoreMay.may_any _ (lamB a) (Nat.le_refl _) (by omega) free (by have := Qd1.out; omega) (by have := Qd2.out; omega) _ _ _ CLM.out (Nat.le_refl 1)).mono fun e w' h => (⟨h.1.trans (by rw [HML.out]), h.2⟩ : e = .returned (.bool mq) ∧ _)).mono ?_
                    rintro e w9 ⟨rfl, hb⟩
                    simp only []
                    refine hK.out _ _ ?_ (fun hHeld => ?_)
                    · (try dsimp only); exact CoreMay.keep8 hHeld hb
                    clear hK K
                    (try simp only [Act.put, List.getElem_toArray, List.getElem_cons_succ, List.getElem_cons_zero, List.setIfInBounds_toArray, List.set_cons_zero, List.set_cons_succ])
                    refine wpAnyH_ready (rs := [8]) (by kernel_rfl) (by simp) ?_
                    refine AllReadyH.cons rfl (fun K hK => ?_) AllReadyH.nil
                    (try simp only [List.getElem_toArray, List.getElem_cons_succ, List.getElem_cons_zero])
                    go_simp
                    refine ((CoreMay.may_any _ a (Nat.le_refl _) (by omega) (free + 1) (by have := Qd1.out; omega) (by have := Qd2.out; omega) _ _ _ (Kd.C_below Ca.out hHeld.2.2.2.2.2.2.2.2) hla).mono fun e w' h => (⟨h.1.trans (by rw [VQ.out]), h.2⟩ : e = .returned (.bool mq) ∧ _)).mono ?_
                    rintro e w9 ⟨rfl, hb⟩
                    simp only []
                    refine hK.out _ _ ?_ (fun hHeld => ?_)
                    · (try dsimp only); exact CoreMay.keep8 hHeld hb
                    clear hK K
                    (try simp only [Act.put, List.getElem_toArray, List.getElem_cons_succ, List.getElem_cons_zero, List.setIfInBounds_toArray, List.set_cons_zero, List.set_cons_succ])
                    refine wpAnyH_take (i := 9) (v := ?_) rfl (by kernel_rfl) (by kernel_rfl) (by kernel_rfl) (fun _ _ _ h => h) (Or.inl ⟨by rfl, ?_⟩) (by assumption) ?_
                    rotate_left 1
                    · (intro w hSw; (try dsimp only at hSw); (try simp only [List.getElem_toArray, List.getElem_cons_succ, List.getElem_cons_zero]); go_simp; (try with_reducible rfl))
                    (try simp only [Act.put, List.getElem_toArray, List.getElem_cons_succ, List.getElem_cons_zero, List.setIfInBounds_toArray, List.set_cons_zero, List.set_cons_succ])
                    refine wpAnyH_take (i := 10) (v := ?_) rfl (by kernel_rfl) (by kernel_rfl) (by kernel_rfl) (fun _ _ _ h => h) (Or.inl ⟨by rfl, ?_⟩) (by assumption) ?_
                    rotate_left 1
                    · (intro w hSw; (try dsimp only at hSw); (try simp only [List.getElem_toArray, List.getElem_cons_succ, List.getElem_cons_zero]); go_simp; (try with_reducible rfl))
                    (try simp only [Act.put, List.getElem_toArray, List.getElem_cons_succ, List.getElem_cons_zero, List.setIfInBounds_toArray, List.set_cons_zero, List.set_cons_succ])
                    refine wpAnyH_done (by kernel_rfl) ?_ _
                    have HB9 := Lib.hid (below_step HB.out hHeld.2.2.2.2.2.2.2.2)
                    clear hHeld
                    go_wp2_with fail
                    go_ret
                    exact ⟨rfl, HB9.out⟩
          · have dl : decide (n ≥ 0) = false := decide_eq_false q
            have dl2 : decide (0 ≤ n) = false := decide_eq_false q
            have QL := Lib.hid q
            clear q
            have HV : Hid (may (varB n) free = false) := Lib.hid (by rw [may_var, decide_eq_false QL.out]; rfl)
            have HAL : Hid (may (altB b) free = false) := Lib.hid rfl
            go_wp2_with fail
            refine ((CoreMay.may_any _ (varB n) (Nat.le_refl _) (by show (0 + 1 + 0 ≤ _); omega) (free) (by have := Qd1.out; omega) (by have := Qd2.out; have hv : height (varB n) = 1 := rfl; omega) _ _ _ (CoreFix.C0 _) (Nat.le_refl 0)).mono fun e w' h => (⟨h.1.trans (by rw [HV.out]), h.2⟩ : e = .returned (.bool false) ∧ _)).mono ?_
            rintro e w5 ⟨rfl, hb⟩
            have nL := Lib.hid (Kd.C_below Cl.out hb); have nM := Lib.hid (blk_below Bl.out hb)
            clear Cl Bl l0 l1 l2 l3
            have Cl := nL; have Bl := nM
            clear nL nM
            have l0 := blk_cell Bl.out 0; have l1 := blk_cell Bl.out 1; have l2 := blk_cell Bl.out 2; have l3 := blk_cell Bl.out 3
            simp only [List.getElem?_toArray, List.getElem?_cons_zero, List.getElem?_cons_succ] at l0 l1 l2 l3
            have n0_ := Lib.hid (below_step HB.out hb); have nX := Lib.hid (blk_below Bx.out hb)
            have nCa := Lib.hid (Kd.C_below Ca.out hb); have nBa := Lib.hid (blk_below Ba.out hb)
            have nCb := Lib.hid (Kd.C_below Cb.out hb); have nBb := Lib.hid (blk_below Bb.out hb)
            clear HB Bx Ca Ba Cb Bb hb a0 a1 a2 a3 b0 b1 b2 b3 x0 x1
            have HB := n0_; have Bx := nX
            have Ca := nCa; have Ba := nBa
            have Cb := nCb; have Bb := nBb
            clear n0_ nX nCa nBa nCb nBb
            have a0 := blk_cell Ba.out 0
            have a1 := blk_cell Ba.out 1
            have a2 := blk_cell Ba.out 2
            have a3 := blk_cell Ba.out 3
            have b0 := blk_cell Bb.out 0
            have b1 := blk_cell Bb.out 1
            have b2 := blk_cell Bb.out 2
            have b3 := blk_cell Bb.out 3
            have x0 := blk_cell Bx.out 0; have x1 := blk_cell Bx.out 1
            simp only [List.getElem?_toArray, List.getElem?_cons_zero, List.getElem?_cons_succ] at x0 x1 a0 a1 a2 a3 b0 b1 b2 b3
            go_wp2_with fail
            refine ((CoreMay.may_any _ (altB b) (Nat.le_refl _) (by omega) (free) (by have := Qd1.out; omega) (by have := Qd2.out; omega) _ _ _ Cl.out (Nat.le_refl 1)).mono fun e w' h => (⟨h.1.trans (by rw [HAL.out]), h.2⟩ : e = .returned (.bool false) ∧ _)).mono ?_
            rintro e w5 ⟨rfl, hb⟩
            have nL := Lib.hid (Kd.C_below Cl.out hb); have nM := Lib.hid (blk_below Bl.out hb)
            clear Cl Bl l0 l1 l2 l3
            have Cl := nL; have Bl := nM
            clear nL nM
            have l0 := blk_cell Bl.out 0; have l1 := blk_cell Bl.out 1; have l2 := blk_cell Bl.out 2; have l3 := blk_cell Bl.out 3
            simp only [List.getElem?_toArray, List.getElem?_cons_zero, List.getElem?_cons_succ] at l0 l1 l2 l3
            have n0_ := Lib.hid (below_step HB.out hb); have nX := Lib.hid (blk_below Bx.out hb)
            have nCa := Lib.hid (Kd.C_below Ca.out hb); have nBa := Lib.hid (blk_below Ba.out hb)
            have nCb := Lib.hid (Kd.C_below Cb.out hb); have nBb := Lib.hid (blk_below Bb.out hb)
            clear HB Bx Ca Ba Cb Bb hb a0 a1 a2 a3 b0 b1 b2 b3 x0 x1
            have HB := n0_; have Bx := nX
            have Ca := nCa; have Ba := nBa
            have Cb := nCb; have Bb := nBb
            clear n0_ nX nCa nBa nCb nBb
            have a0 := blk_cell Ba.out 0
            have a1 := blk_cell Ba.out 1
            have a2 := blk_cell Ba.out 2
            have a3 := blk_cell Ba.out 3
            have b0 := blk_cell Bb.out 0
            have b1 := blk_cell Bb.out 1
            have b2 := blk_cell Bb.out 2
            have b3 := blk_cell Bb.out 3
            have x0 := blk_cell Bx.out 0; have x1 := blk_cell Bx.out 1
            simp only [List.getElem?_toArray, List.getElem?_cons_zero, List.getElem?_cons_succ] at x0 x1 a0 a1 a2 a3 b0 b1 b2 b3
            have f1a0 := fun (o0 : Obj) => ((below_alloc (Below.refl w5.heap.size w5) o0).cell (World.block_lt_of_cell? _ _ a0)).trans a0
            have f1a1 := fun (o0 : Obj) => ((below_alloc (Below.refl w5.heap.size w5) o0).cell (World.block_lt_of_cell? _ _ a1)).trans a1
            have f1a2 := fun (o0 : Obj) => ((below_alloc (Below.refl w5.heap.size w5) o0).cell (World.block_lt_of_cell? _ _ a2)).trans a2
            have f1a3 := fun (o0 : Obj) => ((below_alloc (Below.refl w5.heap.size w5) o0).cell (World.block_lt_of_cell? _ _ a3)).trans a3
            have f1b0 := fun (o0 : Obj) => ((below_alloc (Below.refl w5.heap.size w5) o0).cell (World.block_lt_of_cell? _ _ b0)).trans b0
            have f1b1 := fun (o0 : Obj) => ((below_alloc (Below.refl w5.heap.size w5) o0).cell (World.block_lt_of_cell? _ _ b1)).trans b1
            have f1b2 := fun (o0 : Obj) => ((below_alloc (Below.refl w5.heap.size w5) o0).cell (World.block_lt_of_cell? _ _ b2)).trans b2
            have f1b3 := fun (o0 : Obj) => ((below_alloc (Below.refl w5.heap.size w5) o0).cell (World.block_lt_of_cell? _ _ b3)).trans b3
            have f2a0 := fun (o0 : Obj) (o1 : Obj) => ((below_step (below_alloc (Below.refl w5.heap.size w5) o0) (below_alloc (Below.refl (w5.alloc o0).heap.size (w5.alloc o0)) o1)).cell (World.block_lt_of_cell? _ _ a0)).trans a0
            have f2a1 := fun (o0 : Obj) (o1 : Obj) => ((below_step (below_alloc (Below.refl w5.heap.size w5) o0) (below_alloc (Below.refl (w5.alloc o0).heap.size (w5.alloc o0)) o1)).cell (World.block_lt_of_cell? _ _ a1)).trans a1
            have f2a2 := fun (o0 : Obj) (o1 : Obj) => ((below_step (below_alloc (Below.refl w5.heap.size w5) o0) (below_alloc (Below.refl (w5.alloc o0).heap.size (w5.alloc o0)) o1)).cell (World.block_lt_of_cell? _ _ a2)).trans a2
            have f2a3 := fun (o0 : Obj) (o1 : Obj) => ((below_step (below_alloc (Below.refl w5.heap.size w5) o0) (below_alloc (Below.refl (w5.alloc o0).heap.size (w5.alloc o0)) o1)).cell (World.block_lt_of_cell? _ _ a3)).trans a3
            have f2b0 := fun (o0 : Obj) (o1 : Obj) => ((below_step (below_alloc (Below.refl w5.heap.size w5) o0) (below_alloc (Below.refl (w5.alloc o0).heap.size (w5.alloc o0)) o1)).cell (World.block_lt_of_cell? _ _ b0)).trans b0
            have f2b1 := fun (o0 : Obj) (o1 : Obj) => ((below_step (below_alloc (Below.refl w5.heap.size w5) o0) (below_alloc (Below.refl (w5.alloc o0).heap.size (w5.alloc o0)) o1)).cell (World.block_lt_of_cell? _ _ b1)).trans b1
            have f2b2 := fun (o0 : Obj) (o1 : Obj) => ((below_step (below_alloc (Below.refl w5.heap.size w5) o0) (below_alloc (Below.refl (w5.alloc o0).heap.size (w5.alloc o0)) o1)).cell (World.block_lt_of_cell? _ _ b2)).trans b2
            have f2b3 := fun (o0 : Obj) (o1 : Obj) => ((below_step (below_alloc (Below.refl w5.heap.size w5) o0) (below_alloc (Below.refl (w5.alloc o0).heap.size (w5.alloc o0)) o1)).cell (World.block_lt_of_cell? _ _ b3)).trans b3
            have f3a0 := fun (o0 : Obj) (o1 : Obj) (o2 : Obj) => ((below_step (below_step (below_alloc (Below.refl w5.heap.size w5) o0) (below_alloc (Below.refl (w5.alloc o0).heap.size (w5.alloc o0)) o1)) (below_alloc (Below.refl ((w5.alloc o0).alloc o1).heap.size ((w5.alloc o0).alloc o1)) o2)).cell (World.block_lt_of_cell? _ _ a0)).trans a0
            have f3a1 := fun (o0 : Obj) (o1 : Obj) (o2 : Obj) => ((below_step (below_step (below_alloc (Below.refl w5.heap.size w5) o0) (below_alloc (Below.refl (w5.alloc o0).heap.size (w5.alloc o0)) o1)) (below_alloc (Below.refl ((w5.alloc o0).alloc o1).heap.size ((w5.alloc o0).alloc o1)) o2)).cell (World.block_lt_of_cell? _ _ a1)).trans a1
            have f3a2 := fun (o0 : Obj) (o1 : Obj) (o2 : Obj) => ((below_step (below_step (below_alloc (Below.refl w5.heap.size w5) o0) (below_alloc (Below.refl (w5.alloc o0).heap.size (w5.alloc o0)) o1)) (below_alloc (Below.refl ((w5.alloc o0).alloc o1).heap.size ((w5.alloc o0).alloc o1)) o2)).cell (World.block_lt_of_cell? _ _ a2)).trans a2
            have f3a3 := fun (o0 : Obj) (o1 : Obj) (o2 : Obj) => ((below_step (below_step (below_alloc (Below.refl w5.heap.size w5) o0) (below_alloc (Below.refl (w5.alloc o0).heap.size (w5.alloc o0)) o1)) (below_alloc (Below.refl ((w5.alloc o0).alloc o1).heap.size ((w5.alloc o0).alloc o1)) o2)).cell (World.block_lt_of_cell? _ _ a3)).trans a3
            have f3l0 := fun (o0 : Obj) (o1 : Obj) (o2 : Obj) => ((below_step (below_step (below_alloc (Below.refl w5.heap.size w5) o0) (below_alloc (Below.refl (w5.alloc o0).heap.size (w5.alloc o0)) o1)) (below_alloc (Below.refl ((w5.alloc o0).alloc o1).heap.size ((w5.alloc o0).alloc o1)) o2)).cell (World.block_lt_of_cell? _ _ l0)).trans l0
            have f3l1 := fun (o0 : Obj) (o1 : Obj) (o2 : Obj) => ((below_step (below_step (below_alloc (Below.refl w5.heap.size w5) o0) (below_alloc (Below.refl (w5.alloc o0).heap.size (w5.alloc o0)) o1)) (below_alloc (Below.refl ((w5.alloc o0).alloc o1).heap.size ((w5.alloc o0).alloc o1)) o2)).cell (World.block_lt_of_cell? _ _ l1)).trans l1
            have f3l2 := fun (o0 : Obj) (o1 : Obj) (o2 : Obj) => ((below_step (below_step (below_alloc (Below.refl w5.heap.size w5) o0) (below_alloc (Below.refl (w5.alloc o0).heap.size (w5.alloc o0)) o1)) (below_alloc (Below.refl ((w5.alloc o0).alloc o1).heap.size ((w5.alloc o0).alloc o1)) o2)).cell (World.block_lt_of_cell? _ _ l2)).trans l2
            have f3l3 := fun (o0 : Obj) (o1 : Obj) (o2 : Obj) => ((below_step (below_step (below_alloc (Below.refl w5.heap.size w5) o0) (below_alloc (Below.refl (w5.alloc o0).heap.size (w5.alloc o0)) o1)) (below_alloc (Below.refl ((w5.alloc o0).alloc o1).heap.size ((w5.alloc o0).alloc o1)) o2)).cell (World.block_lt_of_cell? _ _ l3)).trans l3
            go_upto_region 11 with (fail)
            clear f1a0 f1a1 f1a2 f1a3 f1b0 f1b1 f1b2 f1b3 f2a0 f2a1 f2a2 f2a3 f2b0 f2b1 f2b2 f2b3 f3a0 f3a1 f3a2 f3a3 f3l0 f3l1 f3l2 f3l3
            have CaT := Ca; have CbT := Cb; have ClT := Cl
            have HBT := Lib.hid (Below.refl w5.heap.size w5)
            have cr0 := CoreFix.C2 (k24_mk w5 a (A3 := Aa) (c3 := ca) hla (CaT.out)) (k24_mk w5 b (A3 := Ab) (c3 := cb) hlb (CbT.out))
            change Kd.C k24 (w5.alloc (Obj.cells #[.int .i64 a.f0, .int .i64 a.f1, .string a.f2, .slice Aa a.f3.length ca, .int .i64 b.f0, .int .i64 b.f1, .string b.f2, .slice Ab b.f3.length cb] 24)) _ 2 [a, b] at cr0
            have hr := below_alloc (Below.refl w5.heap.size w5) (Obj.cells #[.int .i64 a.f0, .int .i64 a.f1, .string a.f2, .slice Aa a.f3.length ca, .int .i64 b.f0, .int .i64 b.f1, .string b.f2, .slice Ab b.f3.length cb] 24)
            have sr0 := World.size_alloc w5 (Obj.cells #[.int .i64 a.f0, .int .i64 a.f1, .string a.f2, .slice Aa a.f3.length ca, .int .i64 b.f0, .int .i64 b.f1, .string b.f2, .slice Ab b.f3.length cb] 24)
            generalize w5.alloc (Obj.cells #[.int .i64 a.f0, .int .i64 a.f1, .string a.f2, .slice Aa a.f3.length ca, .int .i64 b.f0, .int .i64 b.f1, .string b.f2, .slice Ab b.f3.length cb] 24) = ua at cr0 hr sr0 ⊢
            have CR0 := Lib.hid cr0
            clear cr0
            have nA := Lib.hid (Kd.C_below CaT.out hr); have nB := Lib.hid (Kd.C_below CbT.out hr); have nL := Lib.hid (Kd.C_below ClT.out hr); have nT := Lib.hid (below_step HBT.out hr)
            clear CaT CbT ClT HBT hr 
            have CaT := nA; have CbT := nB; have ClT := nL; have HBT := nT
            clear nA nB nL nT 
            have cr1 := CoreFix.C2 (k24_mk ua a (A3 := Aa) (c3 := ca) hla (CaT.out)) (k24_mk ua b (A3 := Ab) (c3 := cb) hlb (CbT.out))
            change Kd.C k24 (ua.alloc (Obj.cells #[.int .i64 a.f0, .int .i64 a.f1, .string a.f2, .slice Aa a.f3.length ca, .int .i64 b.f0, .int .i64 b.f1, .string b.f2, .slice Ab b.f3.length cb] 24)) _ 2 [a, b] at cr1
            have hr := below_alloc (Below.refl ua.heap.size ua) (Obj.cells #[.int .i64 a.f0, .int .i64 a.f1, .string a.f2, .slice Aa a.f3.length ca, .int .i64 b.f0, .int .i64 b.f1, .string b.f2, .slice Ab b.f3.length cb] 24)
            have sr1 := World.size_alloc ua (Obj.cells #[.int .i64 a.f0, .int .i64 a.f1, .string a.f2, .slice Aa a.f3.length ca, .int .i64 b.f0, .int .i64 b.f1, .string b.f2, .slice Ab b.f3.length cb] 24)
            generalize ua.alloc (Obj.cells #[.int .i64 a.f0, .int .i64 a.f1, .string a.f2, .slice Aa a.f3.length ca, .int .i64 b.f0, .int .i64 b.f1, .string b.f2, .slice Ab b.f3.length cb] 24) = ub at cr1 hr sr1 ⊢
            rw [sr0] at cr1
            have CR1 := Lib.hid cr1
            clear cr1
            have nA := Lib.hid (Kd.C_below CaT.out hr); have nB := Lib.hid (Kd.C_below CbT.out hr); have nL := Lib.hid (Kd.C_below ClT.out hr); have nT := Lib.hid (below_step HBT.out hr)
            have nR0 := Lib.hid (Kd.C_below CR0.out hr)
            clear CaT CbT ClT HBT hr CR0
            have CaT := nA; have CbT := nB; have ClT := nL; have HBT := nT
            have CR0 := nR0
            clear nA nB nL nT nR0
            have cr2 := CoreFix.C2 (k24_mk ub a (A3 := Aa) (c3 := ca) hla (CaT.out)) (k24_mk ub b (A3 := Ab) (c3 := cb) hlb (CbT.out))
            change Kd.C k24 (ub.alloc (Obj.cells #[.int .i64 a.f0, .int .i64 a.f1, .string a.f2, .slice Aa a.f3.length ca, .int .i64 b.f0, .int .i64 b.f1, .string b.f2, .slice Ab b.f3.length cb] 24)) _ 2 [a, b] at cr2
            have hr := below_alloc (Below.refl ub.heap.size ub) (Obj.cells #[.int .i64 a.f0, .int .i64 a.f1, .string a.f2, .slice Aa a.f3.length ca, .int .i64 b.f0, .int .i64 b.f1, .string b.f2, .slice Ab b.f3.length cb] 24)
            have sr2 := World.size_alloc ub (Obj.cells #[.int .i64 a.f0, .int .i64 a.f1, .string a.f2, .slice Aa a.f3.length ca, .int .i64 b.f0, .int .i64 b.f1, .string b.f2, .slice Ab b.f3.length cb] 24)
            generalize ub.alloc (Obj.cells #[.int .i64 a.f0, .int .i64 a.f1, .string a.f2, .slice Aa a.f3.length ca, .int .i64 b.f0, .int .i64 b.f1, .string b.f2, .slice Ab b.f3.length cb] 24) = uc at cr2 hr sr2 ⊢
            rw [sr1, sr0] at cr2
            have CR2 := Lib.hid cr2
            clear cr2
            have nA := Lib.hid (Kd.C_below CaT.out hr); have nB := Lib.hid (Kd.C_below CbT.out hr); have nL := Lib.hid (Kd.C_below ClT.out hr); have nT := Lib.hid (below_step HBT.out hr)
            have nR0 := Lib.hid (Kd.C_below CR0.out hr)
            have nR1 := Lib.hid (Kd.C_below CR1.out hr)
            clear CaT CbT ClT HBT hr CR0 CR1
            have CaT := nA; have CbT := nB; have ClT := nL; have HBT := nT
            have CR0 := nR0
            have CR1 := nR1
            clear nA nB nL nT nR0 nR1
            have cr3 := CoreFix.C2 (k24_mk uc a (A3 := Aa) (c3 := ca) hla (CaT.out)) (k24_mk uc (altB b) (A3 := some ⟨g9, 0, none⟩) (c3 := 1) (Nat.le_refl 1) (ClT.out))
            change Kd.C k24 (uc.alloc (Obj.cells #[.int .i64 a.f0, .int .i64 a.f1, .string a.f2, .slice Aa a.f3.length ca, .int .i64 6, .int .i64 0, .string ⟨#[65]⟩, .slice (some ⟨g9, 0, none⟩) 1 1] 24)) _ 2 [a, altB b] at cr3
            have hr := below_alloc (Below.refl uc.heap.size uc) (Obj.cells #[.int .i64 a.f0, .int .i64 a.f1, .string a.f2, .slice Aa a.f3.length ca, .int .i64 6, .int .i64 0, .string ⟨#[65]⟩, .slice (some ⟨g9, 0, none⟩) 1 1] 24)
            have sr3 := World.size_alloc uc (Obj.cells #[.int .i64 a.f0, .int .i64 a.f1, .string a.f2, .slice Aa a.f3.length ca, .int .i64 6, .int .i64 0, .string ⟨#[65]⟩, .slice (some ⟨g9, 0, none⟩) 1 1] 24)
            generalize uc.alloc (Obj.cells #[.int .i64 a.f0, .int .i64 a.f1, .string a.f2, .slice Aa a.f3.length ca, .int .i64 6, .int .i64 0, .string ⟨#[65]⟩, .slice (some ⟨g9, 0, none⟩) 1 1] 24) = ud at cr3 hr sr3 ⊢
            rw [sr2, sr1, sr0] at cr3
            have CR3 := Lib.hid cr3
            clear cr3
            have nA := Lib.hid (Kd.C_below CaT.out hr); have nB := Lib.hid (Kd.C_below CbT.out hr); have nL := Lib.hid (Kd.C_below ClT.out hr); have nT := Lib.hid (below_step HBT.out hr)
            have nR0 := Lib.hid (Kd.C_below CR0.out hr)
            have nR1 := Lib.hid (Kd.C_below CR1.out hr)
            have nR2 := Lib.hid (Kd.C_below CR2.out hr)
            clear CaT CbT ClT HBT hr CR0 CR1 CR2
            have CaT := nA; have CbT := nB; have ClT := nL; have HBT := nT
            have CR0 := nR0
            have CR1 := nR1
            have CR2 := nR2
            clear nA nB nL nT nR0 nR1 nR2
            have cr4 := C4 (k24_mk ud (tA a b) (A3 := some ⟨w5.heap.size, 0, none⟩) (c3 := 2) (Nat.le_refl 2) CR0.out) (k24_mk ud (tC a b) (A3 := some ⟨w5.heap.size + 1, 0, none⟩) (c3 := 2) (Nat.le_refl 2) CR1.out) (k24_mk ud (tO a b) (A3 := some ⟨w5.heap.size + 1 + 1, 0, none⟩) (c3 := 2) (Nat.le_refl 2) CR2.out) (k24_mk ud (tK a b) (A3 := some ⟨w5.heap.size + 1 + 1 + 1, 0, none⟩) (c3 := 2) (Nat.le_refl 2) CR3.out)
            change Kd.C k24 (ud.alloc (Obj.cells #[.int .i64 3, .int .i64 0, .string ⟨#[]⟩, .slice (some ⟨w5.heap.size, 0, none⟩) 2 2, .int .i64 4, .int .i64 0, .string ⟨#[65]⟩, .slice (some ⟨w5.heap.size + 1, 0, none⟩) 2 2, .int .i64 8, .int .i64 0, .string ⟨#[60]⟩, .slice (some ⟨w5.heap.size + 1 + 1, 0, none⟩) 2 2, .int .i64 5, .int .i64 0, .string ⟨#[]⟩, .slice (some ⟨w5.heap.size + 1 + 1 + 1, 0, none⟩) 2 2] 24)) _ 4 (lst a b) at cr4
            have hr := below_alloc (Below.refl ud.heap.size ud) (Obj.cells #[.int .i64 3, .int .i64 0, .string ⟨#[]⟩, .slice (some ⟨w5.heap.size, 0, none⟩) 2 2, .int .i64 4, .int .i64 0, .string ⟨#[65]⟩, .slice (some ⟨w5.heap.size + 1, 0, none⟩) 2 2, .int .i64 8, .int .i64 0, .string ⟨#[60]⟩, .slice (some ⟨w5.heap.size + 1 + 1, 0, none⟩) 2 2, .int .i64 5, .int .i64 0, .string ⟨#[]⟩, .slice (some ⟨w5.heap.size + 1 + 1 + 1, 0, none⟩) 2 2] 24)
            rw [sr3, sr2, sr1, sr0] at cr4
            generalize ud.alloc (Obj.cells #[.int .i64 3, .int .i64 0, .string ⟨#[]⟩, .slice (some ⟨w5.heap.size, 0, none⟩) 2 2, .int .i64 4, .int .i64 0, .string ⟨#[65]⟩, .slice (some ⟨w5.heap.size + 1, 0, none⟩) 2 2, .int .i64 8, .int .i64 0, .string ⟨#[60]⟩, .slice (some ⟨w5.heap.size + 1 + 1, 0, none⟩) 2 2, .int .i64 5, .int .i64 0, .string ⟨#[]⟩, .slice (some ⟨w5.heap.size + 1 + 1 + 1, 0, none⟩) 2 2] 24) = ue at cr4 hr ⊢
            have Cq := Lib.hid cr4
            have hb := below_step HBT.out hr
            clear cr4 hr HBT CaT CbT ClT CR0 CR1 CR2 CR3 sr0 sr1 sr2 sr3
            have nL := Lib.hid (Kd.C_below Cl.out hb); have nM := Lib.hid (blk_below Bl.out hb)
            clear Cl Bl l0 l1 l2 l3
            have Cl := nL; have Bl := nM
            clear nL nM
            have l0 := blk_cell Bl.out 0; have l1 := blk_cell Bl.out 1; have l2 := blk_cell Bl.out 2; have l3 := blk_cell Bl.out 3
            simp only [List.getElem?_toArray, List.getElem?_cons_zero, List.getElem?_cons_succ] at l0 l1 l2 l3
            have n0_ := Lib.hid (below_step HB.out hb); have nX := Lib.hid (blk_below Bx.out hb)
            have nCa := Lib.hid (Kd.C_below Ca.out hb); have nBa := Lib.hid (blk_below Ba.out hb)
            have nCb := Lib.hid (Kd.C_below Cb.out hb); have nBb := Lib.hid (blk_below Bb.out hb)
            clear HB Bx Ca Ba Cb Bb hb a0 a1 a2 a3 b0 b1 b2 b3 x0 x1
            have HB := n0_; have Bx := nX
            have Ca := nCa; have Ba := nBa
            have Cb := nCb; have Bb := nBb
            clear n0_ nX nCa nBa nCb nBb
            have a0 := blk_cell Ba.out 0
            have a1 := blk_cell Ba.out 1
            have a2 := blk_cell Ba.out 2
            have a3 := blk_cell Ba.out 3
            have b0 := blk_cell Bb.out 0
            have b1 := blk_cell Bb.out 1
            have b2 := blk_cell Bb.out 2
            have b3 := blk_cell Bb.out 3
            have x0 := blk_cell Bx.out 0; have x1 := blk_cell Bx.out 1
            simp only [List.getElem?_toArray, List.getElem?_cons_zero, List.getElem?_cons_succ] at x0 x1 a0 a1 a2 a3 b0 b1 b2 b3
            clear Cl Bl l0 l1 l2 l3
            have Cq0 := Cq.out
            clear Cq
            generalize w5.heap.size = g5 at *
            generalize (⟨g5 + 1 + 1 + 1 + 1, 0, none⟩ : Addr) = adq at Cq0 ⊢
            have Cq := Lib.hid Cq0
            clear Cq0
            cases ma with
            | true =>
              cases mb with
              | true =>
                have HPQ : Hid (∀ x ∈ lst a b, may x free = true) := Lib.hid (by intro x hx; rw [may_lst a b free (by have := Qd1.out; omega) x hx, VA.out, VB.out]; rfl)
                have HWL := Lib.hid (wt_lst a b); have HHL := Lib.hid (height_lst a b)
                go_wp2_with fail
                go_loopw [13] (fun i wr => ∃ k : Nat, k ≤ 4 ∧ i = .int .i64 k ∧ Hid (Below ue.heap.size ue wr)) (fun i _ => 4 - (intOf i).toNat)
                case atStart => exact ⟨0, by omega, rfl, Lib.hid (Below.refl _ _)⟩
                case round =>
                  obtain ⟨k, hk, rfl, HBR⟩ := hrel
                  have hb := HBR.out
                  have n0_ := Lib.hid (below_step HB.out hb); have nX := Lib.hid (blk_below Bx.out hb)
                  have nCa := Lib.hid (Kd.C_below Ca.out hb); have nBa := Lib.hid (blk_below Ba.out hb)
                  have nCb := Lib.hid (Kd.C_below Cb.out hb); have nBb := Lib.hid (blk_below Bb.out hb)
                  clear HB Bx Ca Ba Cb Bb hb a0 a1 a2 a3 b0 b1 b2 b3 x0 x1
                  have HB := n0_; have Bx := nX
                  have Ca := nCa; have Ba := nBa
                  have Cb := nCb; have Bb := nBb
                  clear n0_ nX nCa nBa nCb nBb
                  have a0 := blk_cell Ba.out 0
                  have a1 := blk_cell Ba.out 1
                  have a2 := blk_cell Ba.out 2
                  have a3 := blk_cell Ba.out 3
                  have b0 := blk_cell Bb.out 0
                  have b1 := blk_cell Bb.out 1
                  have b2 := blk_cell Bb.out 2
                  have b3 := blk_cell Bb.out 3
                  have x0 := blk_cell Bx.out 0; have x1 := blk_cell Bx.out 1
                  simp only [List.getElem?_toArray, List.getElem?_cons_zero, List.getElem?_cons_succ] at x0 x1 a0 a1 a2 a3 b0 b1 b2 b3
                  have nq := Lib.hid (Kd.C_below Cq.out HBR.out)
                  clear Cq
                  have Cq := nq
                  clear nq
                  have hl4 : (lst a b).length = 4 := rfl
                  by_cases hlt : k < 4
                  · obtain ⟨ad, A3, c3, he, y0, y1, y2, y3, hl3, hc3⟩ := at_T24 Cq.out (k : Int) (by omega) (by omega)
                    cases he
                    simp only [Int.toNat_natCast] at y0 y1 y2 y3
                    have hrk : rd_T24 (lst a b) (k : Int) = (lst a b)[k]'(by rw [hl4]; exact hlt) := by
                      unfold rd_T24
                      rw [Int.toNat_natCast, List.getD_eq_getElem?_getD, List.getElem?_eq_getElem (by rw [hl4]; exact hlt)]; rfl
                    rw [hrk] at y0 y1 y2 y3 hl3 hc3
                    have hmem := List.getElem_mem (l := lst a b) (n := k) (by rw [hl4]; exact hlt)
                    have hpq := HPQ.out _ hmem
                    have hwy := HWL.out _ hmem; have hhy := HHL.out _ hmem
                    generalize (lst a b)[k]'(by rw [hl4]; exact hlt) = y at *
                    have HMY := Lib.hid hpq; have Cy := Lib.hid hc3
                    clear hrk hmem hpq hc3
                    go_wp2_with fail
                    refine ((CoreMay.may_any _ y (Nat.le_refl _) (by omega) (free) (by have := Qd1.out; omega) (by have := Qd2.out; omega) _ _ _ Cy.out hl3).mono fun e w' h => (⟨h.1.trans (by rw [HMY.out]), h.2⟩ : e = .returned (.bool true) ∧ _)).mono ?_
                    rintro e w6 ⟨rfl, hb⟩
                    have HBR7 := Lib.hid (below_step HBR.out hb)
                    clear hb
                    go_wp2_with fail
                    exact ⟨⟨k + 1, by omega, by first | rfl | go_num, HBR7⟩, by simp [intOf]; omega⟩
                  · obtain ⟨mq, VQ⟩ : ∃ q, Hid (may a (free + 1) = q) := ⟨_, Lib.hid rfl⟩
                    have HML : Hid (may (lamB a) free = mq) := Lib.hid (by rw [may_lam a free (by have := Qd1.out; omega), VQ.out])
                    have hwf : IntKind.i64.wrap (free + 1) = free + 1 := CoreMay.wrap_i64_small (by have := Qd1.out; omega) (by have := Qd2.out; omega)
                    go_upto_region 16 with (fail)
                    refine wp_region_held_drew (S := (fun w' => w'.cell? ⟨w.heap.size, 0, none⟩ = some (.int .i64 a.f0) ∧ w'.cell? ⟨w.heap.size, 1, none⟩ = some (.int .i64 a.f1) ∧ w'.cell? ⟨w.heap.size, 2, none⟩ = some (.string a.f2) ∧ w'.cell? ⟨w.heap.size, 3, none⟩ = some (.slice Aa a.f3.length ca) ∧ w'.cell? ⟨w.heap.size + 1, 0, none⟩ = some (.int .i64 b.f0) ∧ w'.cell? ⟨w.heap.size + 1, 1, none⟩ = some (.int .i64 b.f1) ∧ w'.cell? ⟨w.heap.size + 1, 2, none⟩ = some (.string b.f2) ∧ w'.cell? ⟨w.heap.size + 1, 3, none⟩ = some (.slice Ab b.f3.length cb) ∧ Below wr.heap.size wr w')) (by kernel_rfl) (by (try dsimp only); exact CoreMay.keep8 ⟨a0, a1, a2, a3, b0, b1, b2, b3, Below.refl _ _⟩ (below_drew1 (Below.refl _ _))) (fun hHeld => ?_)
                    refine wpAnyH_take (i := 0) (v := ?_) rfl (by kernel_rfl) (by kernel_rfl) (by kernel_rfl) (fun _ _ _ h => h) (Or.inl ⟨by rfl, ?_⟩) (by assumption) ?_
                    rotate_left 1
                    · (intro w hSw; (try dsimp only at hSw); (try simp only [List.getElem_toArray, List.getElem_cons_succ, List.getElem_cons_zero]); go_simp; (try with_reducible rfl))
                    (try simp only [Act.put, List.getElem_toArray, List.getElem_cons_succ, List.getElem_cons_zero, List.setIfInBounds_toArray, List.set_cons_zero, List.set_cons_succ])
                    refine wpAnyH_take (i := 3) (v := ?_) rfl (by kernel_rfl) (by kernel_rfl) (by kernel_rfl) (fun _ _ _ h => h) (Or.inl ⟨by rfl, ?_⟩) (by assumption) ?_
                    rotate_left 1
                    · (intro w hSw; (try dsimp only at hSw); (try simp only [List.getElem_toArray, List.getElem_cons_succ, List.getElem_cons_zero]); go_simp; (try with_reducible rfl))
                    (try simp only [Act.put, List.getElem_toArray, List.getElem_cons_succ, List.getElem_cons_zero, List.setIfInBounds_toArray, List.set_cons_zero, List.set_cons_succ])
                    refine wpAnyH_take (i := 5) (v := ?_) rfl (by kernel_rfl) (by kernel_rfl) (by kernel_rfl) (fun _ _ _ h => h) (Or.inl ⟨by rfl, ?_⟩) (by assumption) ?_
                    rotate_left 1
                    · (intro w hSw; (try dsimp only at hSw); (try simp only [List.getElem_toArray, List.getElem_cons_succ, List.getElem_cons_zero]); go_simp; (try with_reducible rfl))
                    (try simp only [Act.put, List.getElem_toArray, List.getElem_cons_succ, List.getElem_cons_zero, List.setIfInBounds_toArray, List.set_cons_zero, List.set_cons_succ])
                    refine wpAnyH_take (i := 6) (v := ?_) rfl (by kernel_rfl) (by kernel_rfl) (by kernel_rfl) (fun _ _ _ h => h) (Or.inl ⟨by rfl, ?_⟩) (by assumption) ?_
                    rotate_left 1
                    · (intro w hSw; (try dsimp only at hSw); (try simp only [List.getElem_toArray, List.getElem_cons_succ, List.getElem_cons_zero]); go_simp; (try with_reducible rfl))
                    (try simp only [Act.put, List.getElem_toArray, List.getElem_cons_succ, List.getElem_cons_zero, List.setIfInBounds_toArray, List.set_cons_zero, List.set_cons_succ])
                    refine wpAnyH_take (i := 7) (v := ?_) rfl (by kernel_rfl) (by kernel_rfl) (by kernel_rfl) (fun _ _ _ h => h) (Or.inl ⟨by rfl, ?_⟩) (by assumption) ?_
                    rotate_left 1
                    · (intro w hSw; (try dsimp only at hSw); (try simp only [List.getElem_toArray, List.getElem_cons_succ, List.getElem_cons_zero]); go_simp; (try with_reducible rfl))
                    (try simp only [Act.put, List.getElem_toArray, List.getElem_cons_succ, List.getElem_cons_zero, List.setIfInBounds_toArray, List.set_cons_zero, List.set_cons_succ])
                    refine wpAnyH_ready (rs := [1]) (by kernel_rfl) (by simp) ?_
                    refine AllReadyH.cons rfl (fun K hK => ?_) AllReadyH.nil
                    (try simp only [List.getElem_toArray, List.getElem_cons_succ, List.getElem_cons_zero])
                    go_simp
                    have cm := CoreFix.C1 (k24_mk wr.drew a (A3 := Aa) (c3 := ca) hla (Kd.C_below Ca.out hHeld.2.2.2.2.2.2.2.2))
                    change Kd.C k24 ((wr.alloc (Obj.cells #[.int .i64 a.f0, .int .i64 a.f1, .string a.f2, .slice Aa a.f3.length ca] 24)).drew) (some ⟨wr.heap.size, 0, none⟩) 1 (lamB a).f3 at cm
                    have hb : Below wr.drew.heap.size wr.drew ((wr.alloc (Obj.cells #[.int .i64 a.f0, .int .i64 a.f1, .string a.f2, .slice Aa a.f3.length ca] 24)).drew) := below_alloc (Below.refl wr.drew.heap.size wr.drew) (Obj.cells #[.int .i64 a.f0, .int .i64 a.f1, .string a.f2, .slice Aa a.f3.length ca] 24)
                    generalize (wr.alloc (Obj.cells #[.int .i64 a.f0, .int .i64 a.f1, .string a.f2, .slice Aa a.f3.length ca] 24)).drew = wv at cm hb ⊢
                    have CLM := Lib.hid cm
                    clear cm
                    refine hK.out _ _ ?_ (fun hHeld => ?_)
                    · (try dsimp only); exact CoreMay.keep8 hHeld hb
                    clear hK K
                    (try simp only [Act.put, List.getElem_toArray, List.getElem_cons_succ, List.getElem_cons_zero, List.setIfInBounds_toArray, List.set_cons_zero, List.set_cons_succ])
                    refine wpAnyH_take (i := 2) (v := ?_) rfl (by kernel_rfl) (by kernel_rfl) (by kernel_rfl) (fun _ _ _ h => h) (Or.inl ⟨by rfl, ?_⟩) (by assumption) ?_
                    rotate_left 1
                    · (intro w hSw; (try dsimp only at hSw); (try simp only [List.getElem_toArray, List.getElem_cons_succ, List.getElem_cons_zero]); go_simp; (try with_reducible rfl))
                    (try simp only [Act.put, List.getElem_toArray, List.getElem_cons_succ, List.getElem_cons_zero, List.setIfInBounds_toArray, List.set_cons_zero, List.set_cons_succ])
                    refine wpAnyH_ready (rs := [4]) (by kernel_rfl) (by simp) ?_
                    refine AllReadyH.cons rfl (fun K hK => ?_) AllReadyH.nil
                    (try simp only [List.getElem_toArray, List.getElem_cons_succ, List.getElem_cons_zero])
                    go_simp
                    refine ((CoreMay.may_any _ (lamB a) (Nat.le_refl _) (by omega) free (by have := Qd1.out; omega) (by have := Qd2.out; omega) _ _ _ CLM.out (Nat.le_refl 1)).mono fun e w' h => (⟨h.1.trans (by rw [HML.out]), h.2⟩ : e = .returned (.bool mq) ∧ _)).mono ?_
                    rintro e w9 ⟨rfl, hb⟩
                    simp only []
                    refine hK.out _ _ ?_ (fun hHeld => ?_)
                    · (try dsimp only); exact CoreMay.keep8 hHeld hb
                    clear hK K
                    (try simp only [Act.put, List.getElem_toArray, List.getElem_cons_succ, List.getElem_cons_zero, List.setIfInBounds_toArray, List.set_cons_zero, List.set_cons_succ])
                    refine wpAnyH_ready (rs := [8]) (by kernel_rfl) (by simp) ?_
                    refine AllReadyH.cons rfl (fun K hK => ?_) AllReadyH.nil
                    (try simp only [List.getElem_toArray, List.getElem_cons_succ, List.getElem_cons_zero])
                    go_simp
                    refine ((CoreMay.may_any _ a (Nat.le_refl _) (by omega) (free + 1) (by have := Qd1.out; omega) (by have := Qd2.out; omega) _ _ _ (Kd.C_below Ca.out hHeld.2.2.2.2.2.2.2.2) hla).mono fun e w' h => (⟨h.1.trans (by rw [VQ.out]), h.2⟩ : e = .returned (.bool mq) ∧ _)).mono ?_
                    rintro e w9 ⟨rfl, hb⟩
                    simp only []
                    refine hK.out _ _ ?_ (fun hHeld => ?_)
                    · (try dsimp only); exact CoreMay.keep8 hHeld hb
                    clear hK K
                    (try simp only [Act.put, List.getElem_toArray, List.getElem_cons_succ, List.getElem_cons_zero, List.setIfInBounds_toArray, List.set_cons_zero, List.set_cons_succ])
                    refine wpAnyH_take (i := 9) (v := ?_) rfl (by kernel_rfl) (by kernel_rfl) (by kernel_rfl) (fun _ _ _ h => h) (Or.inl ⟨by rfl, ?_⟩) (by assumption) ?_
                    rotate_left 1
                    · (intro w hSw; (try dsimp only at hSw); (try simp only [List.getElem_toArray, List.getElem_cons_succ, List.getElem_cons_zero]); go_simp; (try with_reducible rfl))
                    (try simp only [Act.put, List.getElem_toArray, List.getElem_cons_succ, List.getElem_cons_zero, List.setIfInBounds_toArray, List.set_cons_zero, List.set_cons_succ])
                    refine wpAnyH_take (i := 10) (v := ?_) rfl (by kernel_rfl) (by kernel_rfl) (by kernel_rfl) (fun _ _ _ h => h) (Or.inl ⟨by rfl, ?_⟩) (by assumption) ?_
                    rotate_left 1
                    · (intro w hSw; (try dsimp only at hSw); (try simp only [List.getElem_toArray, List.getElem_cons_succ, List.getElem_cons_zero]); go_simp; (try with_reducible rfl))
                    (try simp only [Act.put, List.getElem_toArray, List.getElem_cons_succ, List.getElem_cons_zero, List.setIfInBounds_toArray, List.set_cons_zero, List.set_cons_succ])
                    refine wpAnyH_done (by kernel_rfl) ?_ _
                    have HB9 := Lib.hid (below_step HB.out hHeld.2.2.2.2.2.2.2.2)
                    clear hHeld
                    go_wp2_with fail
                    go_ret
                    exact ⟨rfl, HB9.out⟩
              | false =>
                have HPQ : Hid (∀ x ∈ lst a b, may x free = false) := Lib.hid (by intro x hx; rw [may_lst a b free (by have := Qd1.out; omega) x hx, VA.out, VB.out]; rfl)
                have HWL := Lib.hid (wt_lst a b); have HHL := Lib.hid (height_lst a b)
                go_wp2_with fail
                go_loopw [13] (fun i wr => ∃ k : Nat, k ≤ 4 ∧ i = .int .i64 k ∧ Hid (Below ue.heap.size ue wr)) (fun i _ => 4 - (intOf i).toNat)
                case atStart => exact ⟨0, by omega, rfl, Lib.hid (Below.refl _ _)⟩
                case round =>
                  obtain ⟨k, hk, rfl, HBR⟩ := hrel
                  have hb := HBR.out
                  have n0_ := Lib.hid (below_step HB.out hb); have nX := Lib.hid (blk_below Bx.out hb)
                  have nCa := Lib.hid (Kd.C_below Ca.out hb); have nBa := Lib.hid (blk_below Ba.out hb)
                  have nCb := Lib.hid (Kd.C_below Cb.out hb); have nBb := Lib.hid (blk_below Bb.out hb)
                  clear HB Bx Ca Ba Cb Bb hb a0 a1 a2 a3 b0 b1 b2 b3 x0 x1
                  have HB := n0_; have Bx := nX
                  have Ca := nCa; have Ba := nBa
                  have Cb := nCb; have Bb := nBb
                  clear n0_ nX nCa nBa nCb nBb
                  have a0 := blk_cell Ba.out 0
                  have a1 := blk_cell Ba.out 1
                  have a2 := blk_cell Ba.out 2
                  have a3 := blk_cell Ba.out 3
                  have b0 := blk_cell Bb.out 0
                  have b1 := blk_cell Bb.out 1
                  have b2 := blk_cell Bb.out 2
                  have b3 := blk_cell Bb.out 3
                  have x0 := blk_cell Bx.out 0; have x1 := blk_cell Bx.out 1
                  simp only [List.getElem?_toArray, List.getElem?_cons_zero, List.getElem?_cons_succ] at x0 x1 a0 a1 a2 a3 b0 b1 b2 b3
                  have nq := Lib.hid (Kd.C_below Cq.out HBR.out)
                  clear Cq
                  have Cq := nq
                  clear nq
                  have hl4 : (lst a b).length = 4 := rfl
                  by_cases hlt : k < 4
                  · obtain ⟨ad, A3, c3, he, y0, y1, y2, y3, hl3, hc3⟩ := at_T24 Cq.out (k : Int) (by omega) (by omega)
                    cases he
                    simp only [Int.toNat_natCast] at y0 y1 y2 y3
                    have hrk : rd_T24 (lst a b) (k : Int) = (lst a b)[k]'(by rw [hl4]; exact hlt) := by
                      unfold rd_T24
                      rw [Int.toNat_natCast, List.getD_eq_getElem?_getD, List.getElem?_eq_getElem (by rw [hl4]; exact hlt)]; rfl
                    rw [hrk] at y0 y1 y2 y3 hl3 hc3
                    have hmem := List.getElem_mem (l := lst a b) (n := k) (by rw [hl4]; exact hlt)
                    have hpq := HPQ.out _ hmem
                    have hwy := HWL.out _ hmem; have hhy := HHL.out _ hmem
                    generalize (lst a b)[k]'(by rw [hl4]; exact hlt) = y at *
                    have HMY := Lib.hid hpq; have Cy := Lib.hid hc3
                    clear hrk hmem hpq hc3
                    go_wp2_with fail
                    refine ((CoreMay.may_any _ y (Nat.le_refl _) (by omega) (free) (by have := Qd1.out; omega) (by have := Qd2.out; omega) _ _ _ Cy.out hl3).mono fun e w' h => (⟨h.1.trans (by rw [HMY.out]), h.2⟩ : e = .returned (.bool false) ∧ _)).mono ?_
                    rintro e w6 ⟨rfl, hb⟩
                    have HBR7 := Lib.hid (below_step HBR.out hb)
                    clear hb
                    go_wp2_with fail
                    exact ⟨⟨k + 1, by omega, by first | rfl | go_num, HBR7⟩, by simp [intOf]; omega⟩
                  · obtain ⟨mq, VQ⟩ : ∃ q, Hid (may a (free + 1) = q) := ⟨_, Lib.hid rfl⟩
                    have HML : Hid (may (lamB a) free = mq) := Lib.hid (by rw [may_lam a free (by have := Qd1.out; omega), VQ.out])
                    have hwf : IntKind.i64.wrap (free + 1) = free + 1 := CoreMay.wrap_i64_small (by have := Qd1.out; omega) (by have := Qd2.out; omega)
                    go_upto_region 16 with (fail)
                    refine wp_region_held_drew (S := (fun w' => w'.cell? ⟨w.heap.size, 0, none⟩ = some (.int .i64 a.f0) ∧ w'.cell? ⟨w.heap.size, 1, none⟩ = some (.int .i64 a.f1) ∧ w'.cell? ⟨w.heap.size, 2, none⟩ = some (.string a.f2) ∧ w'.cell? ⟨w.heap.size, 3, none⟩ = some (.slice Aa a.f3.length ca) ∧ w'.cell? ⟨w.heap.size + 1, 0, none⟩ = some (.int .i64 b.f0) ∧ w'.cell? ⟨w.heap.size + 1, 1, none⟩ = some (.int .i64 b.f1) ∧ w'.cell? ⟨w.heap.size + 1, 2, none⟩ = some (.string b.f2) ∧ w'.cell? ⟨w.heap.size + 1, 3, none⟩ = some (.slice Ab b.f3.length cb) ∧ Below wr.heap.size wr w')) (by kernel_rfl) (by (try dsimp only); exact CoreMay.keep8 ⟨a0, a1, a2, a3, b0, b1, b2, b3, Below.refl _ _⟩ (below_drew1 (Below.refl _ _))) (fun hHeld => ?_)
                    refine wpAnyH_take (i := 0) (v := ?_) rfl (by kernel_rfl) (by kernel_rfl) (by kernel_rfl) (fun _ _ _ h => h) (Or.inl ⟨by rfl, ?_⟩) (by assumption) ?_
                    rotate_left 1
                    · (intro w hSw; (try dsimp only at hSw); (try simp only [List.getElem_toArray, List.getElem_cons_succ, List.getElem_cons_zero]); go_simp; (try with_reducible rfl))
                    (try simp only [Act.put, List.getElem_toArray, List.getElem_cons_succ, List.getElem_cons_zero, List.setIfInBounds_toArray, List.set_cons_zero, List.set_cons_succ])
                    refine wpAnyH_take (i := 3) (v := ?_) rfl (by kernel_rfl) (by kernel_rfl) (by kernel_rfl) (fun _ _ _ h => h) (Or.inl ⟨by rfl, ?_⟩) (by assumption) ?_
                    rotate_left 1
                    · (intro w hSw; (try dsimp only at hSw); (try simp only [List.getElem_toArray, List.getElem_cons_succ, List.getElem_cons_zero]); go_simp; (try with_reducible rfl))
                    (try simp only [Act.put, List.getElem_toArray, List.getElem_cons_succ, List.getElem_cons_zero, List.setIfInBounds_toArray, List.set_cons_zero, List.set_cons_succ])
                    refine wpAnyH_take (i := 5) (v := ?_) rfl (by kernel_rfl) (by kernel_rfl) (by kernel_rfl) (fun _ _ _ h => h) (Or.inl ⟨by rfl, ?_⟩) (by assumption) ?_
                    rotate_left 1
                    · (intro w hSw; (try dsimp only at hSw); (try simp only [List.getElem_toArray, List.getElem_cons_succ, List.getElem_cons_zero]); go_simp; (try with_reducible rfl))
                    (try simp only [Act.put, List.getElem_toArray, List.getElem_cons_succ, List.getElem_cons_zero, List.setIfInBounds_toArray, List.set_cons_zero, List.set_cons_succ])
                    refine wpAnyH_take (i := 6) (v := ?_) rfl (by kernel_rfl) (by kernel_rfl) (by kernel_rfl) (fun _ _ _ h => h) (Or.inl ⟨by rfl, ?_⟩) (by assumption) ?_
                    rotate_left 1
                    · (intro w hSw; (try dsimp only at hSw); (try simp only [List.getElem_toArray, List.getElem_cons_succ, List.getElem_cons_zero]); go_simp; (try with_reducible rfl))
                    (try simp only [Act.put, List.getElem_toArray, List.getElem_cons_succ, List.getElem_cons_zero, List.setIfInBounds_toArray, List.set_cons_zero, List.set_cons_succ])
                    refine wpAnyH_take (i := 7) (v := ?_) rfl (by kernel_rfl) (by kernel_rfl) (by kernel_rfl) (fun _ _ _ h => h) (Or.inl ⟨by rfl, ?_⟩) (by assumption) ?_
                    rotate_left 1
                    · (intro w hSw; (try dsimp only at hSw); (try simp only [List.getElem_toArray, List.getElem_cons_succ, List.getElem_cons_zero]); go_simp; (try with_reducible rfl))
                    (try simp only [Act.put, List.getElem_toArray, List.getElem_cons_succ, List.getElem_cons_zero, List.setIfInBounds_toArray, List.set_cons_zero, List.set_cons_succ])
                    refine wpAnyH_ready (rs := [1]) (by kernel_rfl) (by simp) ?_
                    refine AllReadyH.cons rfl (fun K hK => ?_) AllReadyH.nil
                    (try simp only [List.getElem_toArray, List.getElem_cons_succ, List.getElem_cons_zero])
                    go_simp
                    have cm := CoreFix.C1 (k24_mk wr.drew a (A3 := Aa) (c3 := ca) hla (Kd.C_below Ca.out hHeld.2.2.2.2.2.2.2.2))
                    change Kd.C k24 ((wr.alloc (Obj.cells #[.int .i64 a.f0, .int .i64 a.f1, .string a.f2, .slice Aa a.f3.length ca] 24)).drew) (some ⟨wr.heap.size, 0, none⟩) 1 (lamB a).f3 at cm
                    have hb : Below wr.drew.heap.size wr.drew ((wr.alloc (Obj.cells #[.int .i64 a.f0, .int .i64 a.f1, .string a.f2, .slice Aa a.f3.length ca] 24)).drew) := below_alloc (Below.refl wr.drew.heap.size wr.drew) (Obj.cells #[.int .i64 a.f0, .int .i64 a.f1, .string a.f2, .slice Aa a.f3.length ca] 24)
                    generalize (wr.alloc (Obj.cells #[.int .i64 a.f0, .int .i64 a.f1, .string a.f2, .slice Aa a.f3.length ca] 24)).drew = wv at cm hb ⊢
                    have CLM := Lib.hid cm
                    clear cm
                    refine hK.out _ _ ?_ (fun hHeld => ?_)
                    · (try dsimp only); exact CoreMay.keep8 hHeld hb
                    clear hK K
                    (try simp only [Act.put, List.getElem_toArray, List.getElem_cons_succ, List.getElem_cons_zero, List.setIfInBounds_toArray, List.set_cons_zero, List.set_cons_succ])
                    refine wpAnyH_take (i := 2) (v := ?_) rfl (by kernel_rfl) (by kernel_rfl) (by kernel_rfl) (fun _ _ _ h => h) (Or.inl ⟨by rfl, ?_⟩) (by assumption) ?_
                    rotate_left 1
                    · (intro w hSw; (try dsimp only at hSw); (try simp only [List.getElem_toArray, List.getElem_cons_succ, List.getElem_cons_zero]); go_simp; (try with_reducible rfl))
                    (try simp only [Act.put, List.getElem_toArray, List.getElem_cons_succ, List.getElem_cons_zero, List.setIfInBounds_toArray, List.set_cons_zero, List.set_cons_succ])
                    refine wpAnyH_ready (rs := [4]) (by kernel_rfl) (by simp) ?_
                    refine AllReadyH.cons rfl (fun K hK => ?_) AllReadyH.nil
                    (try simp only [List.getElem_toArray, List.getElem_cons_succ, List.getElem_cons_zero])
                    go_simp
                    refine ((CoreMay.may_any _ (lamB a) (Nat.le_refl _) (by omega) free (by have := Qd1.out; omega) (by have := Qd2.out; omega) _ _ _ CLM.out (Nat.le_refl 1)).mono fun e w' h => (⟨h.1.trans (by rw [HML.out]), h.2⟩ : e = .returned (.bool mq) ∧ _)).mono ?_
                    rintro e w9 ⟨rfl, hb⟩
                    simp only []
                    refine hK.out _ _ ?_ (fun hHeld => ?_)
                    · (try dsimp only); exact CoreMay.keep8 hHeld hb
                    clear hK K
                    (try simp only [Act.put, List.getElem_toArray, List.getElem_cons_succ, List.getElem_cons_zero, List.setIfInBounds_toArray, List.set_cons_zero, List.set_cons_succ])
                    refine wpAnyH_ready (rs := [8]) (by kernel_rfl) (by simp) ?_
                    refine AllReadyH.cons rfl (fun K hK => ?_) AllReadyH.nil
                    (try simp only [List.getElem_toArray, List.getElem_cons_succ, List.getElem_cons_zero])
                    go_simp
                    refine ((CoreMay.may_any _ a (Nat.le_refl _) (by omega) (free + 1) (by have := Qd1.out; omega) (by have := Qd2.out; omega) _ _ _ (Kd.C_below Ca.out hHeld.2.2.2.2.2.2.2.2) hla).mono fun e w' h => (⟨h.1.trans (by rw [VQ.out]), h.2⟩ : e = .returned (.bool mq) ∧ _)).mono ?_
                    rintro e w9 ⟨rfl, hb⟩
                    simp only []
                    refine hK.out _ _ ?_ (fun hHeld => ?_)
                    · (try dsimp only); exact CoreMay.keep8 hHeld hb
                    clear hK K
                    (try simp only [Act.put, List.getElem_toArray, List.getElem_cons_succ, List.getElem_cons_zero, List.setIfInBounds_toArray, List.set_cons_zero, List.set_cons_succ])
                    refine wpAnyH_take (i := 9) (v := ?_) rfl (by kernel_rfl) (by kernel_rfl) (by kernel_rfl) (fun _ _ _ h => h) (Or.inl ⟨by rfl, ?_⟩) (by assumption) ?_
                    rotate_left 1
                    · (intro w hSw; (try dsimp only at hSw); (try simp only [List.getElem_toArray, List.getElem_cons_succ, List.getElem_cons_zero]); go_simp; (try with_reducible rfl))
                    (try simp only [Act.put, List.getElem_toArray, List.getElem_cons_succ, List.getElem_cons_zero, List.setIfInBounds_toArray, List.set_cons_zero, List.set_cons_succ])
                    refine wpAnyH_take (i := 10) (v := ?_) rfl (by kernel_rfl) (by kernel_rfl) (by kernel_rfl) (fun _ _ _ h => h) (Or.inl ⟨by rfl, ?_⟩) (by assumption) ?_
                    rotate_left 1
                    · (intro w hSw; (try dsimp only at hSw); (try simp only [List.getElem_toArray, List.getElem_cons_succ, List.getElem_cons_zero]); go_simp; (try with_reducible rfl))
                    (try simp only [Act.put, List.getElem_toArray, List.getElem_cons_succ, List.getElem_cons_zero, List.setIfInBounds_toArray, List.set_cons_zero, List.set_cons_succ])
                    refine wpAnyH_done (by kernel_rfl) ?_ _
                    have HB9 := Lib.hid (below_step HB.out hHeld.2.2.2.2.2.2.2.2)
                    clear hHeld
                    go_wp2_with fail
                    go_ret
                    exact ⟨rfl, HB9.out⟩
            | false =>
              have HPQ : Hid (∀ x ∈ lst a b, may x free = false) := Lib.hid (by intro x hx; rw [may_lst a b free (by have := Qd1.out; omega) x hx, VA.out]; rfl)
              have HWL := Lib.hid (wt_lst a b); have HHL := Lib.hid (height_lst a b)
              go_wp2_with fail
              go_loopw [13] (fun i wr => ∃ k : Nat, k ≤ 4 ∧ i = .int .i64 k ∧ Hid (Below ue.heap.size ue wr)) (fun i _ => 4 - (intOf i).toNat)
              case atStart => exact ⟨0, by omega, rfl, Lib.hid (Below.refl _ _)⟩
              case round =>
                obtain ⟨k, hk, rfl, HBR⟩ := hrel
                have hb := HBR.out
                have n0_ := Lib.hid (below_step HB.out hb); have nX := Lib.hid (blk_below Bx.out hb)
                have nCa := Lib.hid (Kd.C_below Ca.out hb); have nBa := Lib.hid (blk_below Ba.out hb)
                have nCb := Lib.hid (Kd.C_below Cb.out hb); have nBb := Lib.hid (blk_below Bb.out hb)
                clear HB Bx Ca Ba Cb Bb hb a0 a1 a2 a3 b0 b1 b2 b3 x0 x1
                have HB := n0_; have Bx := nX
                have Ca := nCa; have Ba := nBa
                have Cb := nCb; have Bb := nBb
                clear n0_ nX nCa nBa nCb nBb
                have a0 := blk_cell Ba.out 0
                have a1 := blk_cell Ba.out 1
                have a2 := blk_cell Ba.out 2
                have a3 := blk_cell Ba.out 3
                have b0 := blk_cell Bb.out 0
                have b1 := blk_cell Bb.out 1
                have b2 := blk_cell Bb.out 2
                have b3 := blk_cell Bb.out 3
                have x0 := blk_cell Bx.out 0; have x1 := blk_cell Bx.out 1
                simp only [List.getElem?_toArray, List.getElem?_cons_zero, List.getElem?_cons_succ] at x0 x1 a0 a1 a2 a3 b0 b1 b2 b3
                have nq := Lib.hid (Kd.C_below Cq.out HBR.out)
                clear Cq
                have Cq := nq
                clear nq
                have hl4 : (lst a b).length = 4 := rfl
                by_cases hlt : k < 4
                · obtain ⟨ad, A3, c3, he, y0, y1, y2, y3, hl3, hc3⟩ := at_T24 Cq.out (k : Int) (by omega) (by omega)
                  cases he
                  simp only [Int.toNat_natCast] at y0 y1 y2 y3
                  have hrk : rd_T24 (lst a b) (k : Int) = (lst a b)[k]'(by rw [hl4]; exact hlt) := by
                    unfold rd_T24
                    rw [Int.toNat_natCast, List.getD_eq_getElem?_getD, List.getElem?_eq_getElem (by rw [hl4]; exact hlt)]; rfl
                  rw [hrk] at y0 y1 y2 y3 hl3 hc3
                  have hmem := List.getElem_mem (l := lst a b) (n := k) (by rw [hl4]; exact hlt)
                  have hpq := HPQ.out _ hmem
                  have hwy := HWL.out _ hmem; have hhy := HHL.out _ hmem
                  generalize (lst a b)[k]'(by rw [hl4]; exact hlt) = y at *
                  have HMY := Lib.hid hpq; have Cy := Lib.hid hc3
                  clear hrk hmem hpq hc3
                  go_wp2_with fail
                  refine ((CoreMay.may_any _ y (Nat.le_refl _) (by omega) (free) (by have := Qd1.out; omega) (by have := Qd2.out; omega) _ _ _ Cy.out hl3).mono fun e w' h => (⟨h.1.trans (by rw [HMY.out]), h.2⟩ : e = .returned (.bool false) ∧ _)).mono ?_
                  rintro e w6 ⟨rfl, hb⟩
                  have HBR7 := Lib.hid (below_step HBR.out hb)
                  clear hb
                  go_wp2_with fail
                  exact ⟨⟨k + 1, by omega, by first | rfl | go_num, HBR7⟩, by simp [intOf]; omega⟩
                · obtain ⟨mq, VQ⟩ : ∃ q, Hid (may a (free + 1) = q) := ⟨_, Lib.hid rfl⟩
                  have HML : Hid (may (lamB a) free = mq) := Lib.hid (by rw [may_lam a free (by have := Qd1.out; omega), VQ.out])
                  have hwf : IntKind.i64.wrap (free + 1) = free + 1 := CoreMay.wrap_i64_small (by have := Qd1.out; omega) (by have := Qd2.out; omega)
                  go_upto_region 16 with (fail)
                  refine wp_region_held_drew (S := (fun w' => w'.cell? ⟨w.heap.size, 0, none⟩ = some (.int .i64 a.f0) ∧ w'.cell? ⟨w.heap.size, 1, none⟩ = some (.int .i64 a.f1) ∧ w'.cell? ⟨w.heap.size, 2, none⟩ = some (.string a.f2) ∧ w'.cell? ⟨w.heap.size, 3, none⟩ = some (.slice Aa a.f3.length ca) ∧ w'.cell? ⟨w.heap.size + 1, 0, none⟩ = some (.int .i64 b.f0) ∧ w'.cell? ⟨w.heap.size + 1, 1, none⟩ = some (.int .i64 b.f1) ∧ w'.cell? ⟨w.heap.size + 1, 2, none⟩ = some (.string b.f2) ∧ w'.cell? ⟨w.heap.size + 1, 3, none⟩ = some (.slice Ab b.f3.length cb) ∧ Below wr.heap.size wr w')) (by kernel_rfl) (by (try dsimp only); exact CoreMay.keep8 ⟨a0, a1, a2, a3, b0, b1, b2, b3, Below.refl _ _⟩ (below_drew1 (Below.refl _ _))) (fun hHeld => ?_)
                  refine wpAnyH_take (i := 0) (v := ?_) rfl (by kernel_rfl) (by kernel_rfl) (by kernel_rfl) (fun _ _ _ h => h) (Or.inl ⟨by rfl, ?_⟩) (by assumption) ?_
                  rotate_left 1
                  · (intro w hSw; (try dsimp only at hSw); (try simp only [List.getElem_toArray, List.getElem_cons_succ, List.getElem_cons_zero]); go_simp; (try with_reducible rfl))
                  (try simp only [Act.put, List.getElem_toArray, List.getElem_cons_succ, List.getElem_cons_zero, List.setIfInBounds_toArray, List.set_cons_zero, List.set_cons_succ])
                  refine wpAnyH_take (i := 3) (v := ?_) rfl (by kernel_rfl) (by kernel_rfl) (by kernel_rfl) (fun _ _ _ h => h) (Or.inl ⟨by rfl, ?_⟩) (by assumption) ?_
                  rotate_left 1
                  · (intro w hSw; (try dsimp only at hSw); (try simp only [List.getElem_toArray, List.getElem_cons_succ, List.getElem_cons_zero]); go_simp; (try with_reducible rfl))
                  (try simp only [Act.put, List.getElem_toArray, List.getElem_cons_succ, List.getElem_cons_zero, List.setIfInBounds_toArray, List.set_cons_zero, List.set_cons_succ])
                  refine wpAnyH_take (i := 5) (v := ?_) rfl (by kernel_rfl) (by kernel_rfl) (by kernel_rfl) (fun _ _ _ h => h) (Or.inl ⟨by rfl, ?_⟩) (by assumption) ?_
                  rotate_left 1
                  · (intro w hSw; (try dsimp only at hSw); (try simp only [List.getElem_toArray, List.getElem_cons_succ, List.getElem_cons_zero]); go_simp; (try with_reducible rfl))
                  (try simp only [Act.put, List.getElem_toArray, List.getElem_cons_succ, List.getElem_cons_zero, List.setIfInBounds_toArray, List.set_cons_zero, List.set_cons_succ])
                  refine wpAnyH_take (i := 6) (v := ?_) rfl (by kernel_rfl) (by kernel_rfl) (by kernel_rfl) (fun _ _ _ h => h) (Or.inl ⟨by rfl, ?_⟩) (by assumption) ?_
                  rotate_left 1
                  · (intro w hSw; (try dsimp only at hSw); (try simp only [List.getElem_toArray, List.getElem_cons_succ, List.getElem_cons_zero]); go_simp; (try with_reducible rfl))
                  (try simp only [Act.put, List.getElem_toArray, List.getElem_cons_succ, List.getElem_cons_zero, List.setIfInBounds_toArray, List.set_cons_zero, List.set_cons_succ])
                  refine wpAnyH_take (i := 7) (v := ?_) rfl (by kernel_rfl) (by kernel_rfl) (by kernel_rfl) (fun _ _ _ h => h) (Or.inl ⟨by rfl, ?_⟩) (by assumption) ?_
                  rotate_left 1
                  · (intro w hSw; (try dsimp only at hSw); (try simp only [List.getElem_toArray, List.getElem_cons_succ, List.getElem_cons_zero]); go_simp; (try with_reducible rfl))
                  (try simp only [Act.put, List.getElem_toArray, List.getElem_cons_succ, List.getElem_cons_zero, List.setIfInBounds_toArray, List.set_cons_zero, List.set_cons_succ])
                  refine wpAnyH_ready (rs := [1]) (by kernel_rfl) (by simp) ?_
                  refine AllReadyH.cons rfl (fun K hK => ?_) AllReadyH.nil
                  (try simp only [List.getElem_toArray, List.getElem_cons_succ, List.getElem_cons_zero])
                  go_simp
                  have cm := CoreFix.C1 (k24_mk wr.drew a (A3 := Aa) (c3 := ca) hla (Kd.C_below Ca.out hHeld.2.2.2.2.2.2.2.2))
                  change Kd.C k24 ((wr.alloc (Obj.cells #[.int .i64 a.f0, .int .i64 a.f1, .string a.f2, .slice Aa a.f3.length ca] 24)).drew) (some ⟨wr.heap.size, 0, none⟩) 1 (lamB a).f3 at cm
                  have hb : Below wr.drew.heap.size wr.drew ((wr.alloc (Obj.cells #[.int .i64 a.f0, .int .i64 a.f1, .string a.f2, .slice Aa a.f3.length ca] 24)).drew) := below_alloc (Below.refl wr.drew.heap.size wr.drew) (Obj.cells #[.int .i64 a.f0, .int .i64 a.f1, .string a.f2, .slice Aa a.f3.length ca] 24)
                  generalize (wr.alloc (Obj.cells #[.int .i64 a.f0, .int .i64 a.f1, .string a.f2, .slice Aa a.f3.length ca] 24)).drew = wv at cm hb ⊢
                  have CLM := Lib.hid cm
                  clear cm
                  refine hK.out _ _ ?_ (fun hHeld => ?_)
                  · (try dsimp only); exact CoreMay.keep8 hHeld hb
                  clear hK K
                  (try simp only [Act.put, List.getElem_toArray, List.getElem_cons_succ, List.getElem_cons_zero, List.setIfInBounds_toArray, List.set_cons_zero, List.set_cons_succ])
                  refine wpAnyH_take (i := 2) (v := ?_) rfl (by kernel_rfl) (by kernel_rfl) (by kernel_rfl) (fun _ _ _ h => h) (Or.inl ⟨by rfl, ?_⟩) (by assumption) ?_
                  rotate_left 1
                  · (intro w hSw; (try dsimp only at hSw); (try simp only [List.getElem_toArray, List.getElem_cons_succ, List.getElem_cons_zero]); go_simp; (try with_reducible rfl))
                  (try simp only [Act.put, List.getElem_toArray, List.getElem_cons_succ, List.getElem_cons_zero, List.setIfInBounds_toArray, List.set_cons_zero, List.set_cons_succ])
                  refine wpAnyH_ready (rs := [4]) (by kernel_rfl) (by simp) ?_
                  refine AllReadyH.cons rfl (fun K hK => ?_) AllReadyH.nil
                  (try simp only [List.getElem_toArray, List.getElem_cons_succ, List.getElem_cons_zero])
                  go_simp
                  refine ((CoreMay.may_any _ (lamB a) (Nat.le_refl _) (by omega) free (by have := Qd1.out; omega) (by have := Qd2.out; omega) _ _ _ CLM.out (Nat.le_refl 1)).mono fun e w' h => (⟨h.1.trans (by rw [HML.out]), h.2⟩ : e = .returned (.bool mq) ∧ _)).mono ?_
                  rintro e w9 ⟨rfl, hb⟩
                  simp only []
                  refine hK.out _ _ ?_ (fun hHeld => ?_)
                  · (try dsimp only); exact CoreMay.keep8 hHeld hb
                  clear hK K
                  (try simp only [Act.put, List.getElem_toArray, List.getElem_cons_succ, List.getElem_cons_zero, List.setIfInBounds_toArray, List.set_cons_zero, List.set_cons_succ])
                  refine wpAnyH_ready (rs := [8]) (by kernel_rfl) (by simp) ?_
                  refine AllReadyH.cons rfl (fun K hK => ?_) AllReadyH.nil
                  (try simp only [List.getElem_toArray, List.getElem_cons_succ, List.getElem_cons_zero])
                  go_simp
                  refine ((CoreMay.may_any _ a (Nat.le_refl _) (by omega) (free + 1) (by have := Qd1.out; omega) (by have := Qd2.out; omega) _ _ _ (Kd.C_below Ca.out hHeld.2.2.2.2.2.2.2.2) hla).mono fun e w' h => (⟨h.1.trans (by rw [VQ.out]), h.2⟩ : e = .returned (.bool mq) ∧ _)).mono ?_
                  rintro e w9 ⟨rfl, hb⟩
                  simp only []
                  refine hK.out _ _ ?_ (fun hHeld => ?_)
                  · (try dsimp only); exact CoreMay.keep8 hHeld hb
                  clear hK K
                  (try simp only [Act.put, List.getElem_toArray, List.getElem_cons_succ, List.getElem_cons_zero, List.setIfInBounds_toArray, List.set_cons_zero, List.set_cons_succ])
                  refine wpAnyH_take (i := 9) (v := ?_) rfl (by kernel_rfl) (by kernel_rfl) (by kernel_rfl) (fun _ _ _ h => h) (Or.inl ⟨by rfl, ?_⟩) (by assumption) ?_
                  rotate_left 1
                  · (intro w hSw; (try dsimp only at hSw); (try simp only [List.getElem_toArray, List.getElem_cons_succ, List.getElem_cons_zero]); go_simp; (try with_reducible rfl))
                  (try simp only [Act.put, List.getElem_toArray, List.getElem_cons_succ, List.getElem_cons_zero, List.setIfInBounds_toArray, List.set_cons_zero, List.set_cons_succ])
                  refine wpAnyH_take (i := 10) (v := ?_) rfl (by kernel_rfl) (by kernel_rfl) (by kernel_rfl) (fun _ _ _ h => h) (Or.inl ⟨by rfl, ?_⟩) (by assumption) ?_
                  rotate_left 1
                  · (intro w hSw; (try dsimp only at hSw); (try simp only [List.getElem_toArray, List.getElem_cons_succ, List.getElem_cons_zero]); go_simp; (try with_reducible rfl))
                  (try simp only [Act.put, List.getElem_toArray, List.getElem_cons_succ, List.getElem_cons_zero, List.setIfInBounds_toArray, List.set_cons_zero, List.set_cons_succ])
                  refine wpAnyH_done (by kernel_rfl) ?_ _
                  have HB9 := Lib.hid (below_step HB.out hHeld.2.2.2.2.2.2.2.2)
                  clear hHeld
                  go_wp2_with fail
                  go_ret
                  exact ⟨rfl, HB9.out⟩
end Go.Proofs.YtlokmdjhpaimbaaDoor.Pure

/- Reading an argument: what the model's reading of a value gives, kind by kind: the Lean value, its bounds, and its weight (at most the reading's bulk). -/
namespace Go.Proofs.YtlokmdjhpaimbaaDoor.HRead
open Go Go.RowKit Go.Lib Go.Proofs.YtlokmdjhpaimbaaDoorW.PrintWords Go.Proofs.YtlokmdjhpaimbaaDoorW.PrintLast Go.Proofs.YtlokmdjhpaimbaaDoorW.PrintMore
set_option linter.unusedVariables false

/-- At fuel n every reading of type t is a value of kind d. -/
def Rd {α : Type} (P : Program) (d : Kd α) (t : TypeId) (ok : α → Prop) (wt : α → Nat) (n : Nat) : Prop :=
  ∀ {H : Type} (enc : TypeId × Value → H) (w : World) (base : Nat) (spare : Nat → Bool) (held : Bool) (cs : List Value) (x : DataW H × List MemPlace),
    DataW.trod enc P w base spare held n t cs = some x → ∃ y, d.K w y cs ∧ ok y ∧ wt y ≤ Rows.uptoBulk x.1
def RdF {α : Type} (P : Program) (d : Kd α) (fs : List Field) (o : Nat) (ok : α → Prop) (wt : α → Nat) (n : Nat) : Prop :=
  ∀ {H : Type} (enc : TypeId × Value → H) (w : World) (base : Nat) (spare : Nat → Bool) (held : Bool) (cs : List Value) (xs : List (DataW H × List MemPlace)), xs.length = fs.length →
    (∀ (i : Nat) (f : Field), fs[i]? = some f → DataW.trod enc P w base spare held n f.type ((cs.drop f.offset).take (P.cellsOf f.type)) = xs[i]?) →
    ∃ y, d.K w y ((cs.drop o).take d.sz) ∧ ok y ∧ wt y ≤ Rows.uptoBulkAll (xs.map (·.1))

theorem list_of {α : Type} {p : Nat → α → Prop} : ∀ n, (∀ i, i < n → ∃ y, p i y) → ∃ ys : List α, ys.length = n ∧ ∀ i y, ys[i]? = some y → p i y
  | 0, _ => ⟨[], rfl, fun i y h => by simp at h⟩
  | n + 1, h => by
    obtain ⟨ys, hl, hp⟩ := list_of n fun i hi => h i (by omega)
    obtain ⟨y, hy⟩ := h n (by omega)
    refine ⟨ys ++ [y], by simp [hl], fun i z hz => ?_⟩
    by_cases hi : i < n
    · rw [List.getElem?_append_left (by omega)] at hz; exact hp i z hz
    · rw [List.getElem?_append_right (by omega)] at hz
      have h0 : i - ys.length = 0 := by
        have := (List.getElem?_eq_some_iff.1 hz).1
        simp at this; omega
      rw [h0] at hz
      obtain rfl : y = z := by simpa using hz
      obtain rfl : i = n := by omega
      exact hy
theorem bulk_sum {α H : Type} (wt : α → Nat) : ∀ (ys : List α) (ds : List (DataW H)), ys.length = ds.length → (∀ (i : Nat) (y : α) (d : DataW H), ys[i]? = some y → ds[i]? = some d → wt y ≤ Rows.uptoBulk d) → (ys.map wt).sum ≤ Rows.uptoBulkAll ds
  | [], ds, _, _ => by simp
  | y :: ys, [], h, _ => by simp at h
  | y :: ys, d :: ds, h, hp => by
    have h1 := hp 0 y d rfl rfl
    have h2 := bulk_sum wt ys ds (by simpa using h) fun i z e hz he => hp (i + 1) z e hz he
    simp only [List.map_cons, List.sum_cons, Rows.uptoBulkAll]
    omega

section
variable {P : Program} {t e : TypeId} {n : Nat}
theorem rd_zero {α : Type} {d : Kd α} {ok : α → Prop} {wt : α → Nat} : Rd P d t ok wt 0 := fun enc w base spare held cs x h => by simp [DataW.trod] at h
theorem rd_int {k : IntKind} (ht : P.underlying t = some (.int k)) : Rd P (Kd.int k) t (fun m => (Lit.int k m).wf = true) (fun _ => 1) n := by
  intro H enc w base spare held cs x h
  obtain ⟨m, rfl, rfl, hw⟩ := DataW.trod_int ht h
  exact ⟨m, rfl, hw, by simp [Rows.uptoBulk]⟩
theorem rd_bool (ht : P.underlying t = some .bool) : Rd P Kd.bool t (fun _ => True) (fun _ => 1) n := by
  intro H enc w base spare held cs x h
  obtain ⟨b, rfl, rfl⟩ := DataW.trod_bool ht h
  exact ⟨b, rfl, trivial, by simp [Rows.uptoBulk]⟩
theorem rd_string (ht : P.underlying t = some .string) : Rd P Kd.string t (fun _ => True) (fun s => s.size + 1) n := by
  intro H enc w base spare held cs x h
  obtain ⟨s, rfl, rfl, hs⟩ := DataW.trod_string ht h
  exact ⟨s, rfl, trivial, by simp [Rows.uptoBulk]⟩
theorem rd_slice {α : Type} {d : Kd α} {ok : α → Prop} {wt : α → Nat} (ht : P.underlying t = some (.slice e)) (hc : P.cellsOf e = d.sz) (h : Rd P d e ok wt n) :
    Rd P (Kd.slice e d) t (fun ys => (∀ y ∈ ys, ok y) ∧ ys.length ≤ 9223372036854775807) (fun ys => (ys.map wt).sum + 1) (n + 1) := by
  intro H enc w base spare held cs x hx
  rcases DataW.trod_slice ht hx with ⟨rfl, rfl⟩ | ⟨a, len, cap, elems, rest, m, hm, rfl, rfl, hb, hl, hmax, hel, hget, _, _⟩
  · exact ⟨[], ⟨none, 0, rfl, Nat.le_refl _, rfl, by simp, fun h0 => absurd h0 (by simp)⟩, ⟨by simp, by simp⟩, by simp [Rows.uptoBulk]⟩
  · obtain rfl : n = m := by omega
    rw [hc] at hget
    have hmax' : cap ≤ 9223372036854775807 := hmax
    have key : ∀ i, i < len → ∃ y, ∃ cs' x', elems[i]? = some x' ∧ w.cells? base (a.add (i * d.sz)) d.sz = some cs' ∧ d.K w y cs' ∧ ok y ∧ wt y ≤ Rows.uptoBulk x'.1 := by
      intro i hi
      have h1 := hget i hi
      rw [List.getElem?_eq_getElem (by omega)] at h1
      obtain ⟨cs', h2, h3⟩ := Option.bind_eq_some_iff.1 h1
      obtain ⟨y, k1, k2, k3⟩ := h enc w base spare held cs' _ h3
      exact ⟨y, cs', _, List.getElem?_eq_getElem (by omega), h2, k1, k2, k3⟩
    obtain ⟨ys, hyl, hy⟩ := list_of len key
    refine ⟨ys, ⟨some a, cap, by rw [hyl], by omega, ?_⟩, ⟨?_, by omega⟩, ?_⟩
    · refine ⟨rfl, by omega, fun _ => ⟨a, rfl, fun j p hj => ?_⟩⟩
      obtain ⟨cs', x', _, h2, h3, _⟩ := hy j p hj
      obtain ⟨_, h5, h6⟩ := World.cells?_some h2
      refine ⟨cs', h5, h3, fun i u hi => ?_⟩
      have hlt : i < d.sz := by
        have := (List.getElem?_eq_some_iff.1 hi).1
        omega
      rw [← add_add, h6 i hlt, hi]
    · intro y hm
      obtain ⟨i, hi⟩ := List.getElem?_of_mem hm
      obtain ⟨_, _, _, _, _, h4, _⟩ := hy i y hi
      exact h4
    · have := bulk_sum wt ys (elems.map (·.1)) (by simp [hyl, hel]) (fun i y dd hi hd => by
        obtain ⟨cs', x', h1, _, _, _, h5⟩ := hy i y hi
        rw [List.getElem?_map, h1] at hd
        obtain rfl : x'.1 = dd := by simpa using hd
        exact h5)
      simp only [Rows.uptoBulk]
      omega
theorem rdf_one {α : Type} {d : Kd α} {ok : α → Prop} {wt : α → Nat} {f : Field} {o : Nat} (ho : f.offset = o) (hc : P.cellsOf f.type = d.sz) (h : Rd P d f.type ok wt n) : RdF P d [f] o ok wt n := by
  intro H enc w base spare held cs xs hl hx
  match xs, hl with
  | [x], _ =>
    have h0 := hx 0 f rfl
    rw [ho, hc] at h0
    obtain ⟨y, h1, h2, h3⟩ := h enc w base spare held _ _ h0
    exact ⟨y, h1, h2, by simpa [Rows.uptoBulkAll] using h3⟩
theorem rdf_cons {α β : Type} {d : Kd α} {d2 : Kd β} {ok : α → Prop} {wt : α → Nat} {ok2 : β → Prop} {wt2 : β → Nat} {f : Field} {fs : List Field} {o : Nat} (ho : f.offset = o) (hc : P.cellsOf f.type = d.sz) (h : Rd P d f.type ok wt n) (h2 : RdF P d2 fs (o + d.sz) ok2 wt2 n) :
    RdF P (Kd.pair d d2) (f :: fs) o (fun y => ok y.1 ∧ ok2 y.2) (fun y => wt y.1 + wt2 y.2) n := by
  intro H enc w base spare held cs xs hl hx
  match xs, hl with
  | x :: xs, hl =>
    have h0 := hx 0 f rfl
    rw [ho, hc] at h0
    obtain ⟨y, k1, k2, k3⟩ := h enc w base spare held _ _ h0
    obtain ⟨z, j1, j2, j3⟩ := h2 enc w base spare held cs xs (by simpa using hl) fun i g hg => by
      have := hx (i + 1) g (by simpa using hg)
      simpa using this
    refine ⟨(y, z), ⟨_, _, ?_, k1, j1⟩, ⟨k2, j2⟩, ?_⟩
    · show (cs.drop o).take (d.sz + d2.sz) = _
      rw [List.take_add, List.drop_drop]
    · simp only [List.map_cons, Rows.uptoBulkAll]
      omega
theorem rd_struct {α : Type} {d : Kd α} {ok : α → Prop} {wt : α → Nat} {fs : Array Field} (ht : P.underlying t = some (.struct fs)) (hc : P.cellsOf t = d.sz) (h : RdF P d fs.toList 0 ok wt n) : Rd P d t ok (fun y => wt y + 1) (n + 1) := by
  intro H enc w base spare held cs x hx
  obtain ⟨xs, m, hm, rfl, hl, hxl, hf⟩ := DataW.trod_struct ht hx
  obtain rfl : n = m := by omega
  obtain ⟨y, h1, h2, h3⟩ := h enc w base spare held cs xs (by simpa using hxl) fun i f hi => hf i f (by simpa using hi)
  refine ⟨y, ?_, h2, by simp only [Rows.uptoBulk]; omega⟩
  rw [List.drop_zero, List.take_of_length_le (by omega)] at h1
  exact h1
theorem rd_iso {α β : Type} {d : Kd α} {ok : α → Prop} {wt : α → Nat} (f : β → α) (g : α → β) (hfg : ∀ a, f (g a) = a) {ok' : β → Prop} {wt' : β → Nat} (hok : ∀ a, ok a → ok' (g a)) (hwt : ∀ a, wt' (g a) ≤ wt a) (h : Rd P d t ok wt n) : Rd P (Kd.iso d f) t ok' wt' n := by
  intro H enc w base spare held cs x hx
  obtain ⟨y, h1, h2, h3⟩ := h enc w base spare held cs x hx
  exact ⟨g y, by show d.K w (f (g y)) cs; rw [hfg]; exact h1, hok _ h2, Nat.le_trans (hwt _) h3⟩
/-- A slice argument: its row. -/
theorem read_slice {α : Type} {d : Kd α} {ok : List α → Prop} {wt : α → Nat} {H : Type} {enc : TypeId × Value → H} {w : World} {base : Nat} {spare : Nat → Bool} {held : Bool} {v : Value} {D : DataW H} {ps : List MemPlace} (ht : P.underlying t = some (.slice e))
    (h : ∀ n, Rd P (Kd.slice e d) t ok (fun ys => (ys.map wt).sum + 1) n) (hv : v.cells.toList = [v]) (hd : DataW.Trod enc P w base spare held t v D ps) :
    ∃ (ys : List α) (A : Option Addr) (c : Nat), v = .slice A ys.length c ∧ ys.length ≤ c ∧ d.C w A ys.length ys ∧ ok ys ∧ (ys.map wt).sum + 1 ≤ Rows.uptoBulk D := by
  obtain ⟨fuel, hf⟩ := hd
  obtain ⟨ys, ⟨A, c, h1, h2, h3⟩, h4, h5⟩ := h fuel enc w base spare held _ _ hf
  rw [hv] at h1
  exact ⟨ys, A, c, by simpa using h1, h2, h3, h4, h5⟩
end
end Go.Proofs.YtlokmdjhpaimbaaDoor.HRead

-- Written for this claim.
namespace Go.Proofs.YtlokmdjhpaimbaaDoor.Pure
open Go Go.RowKit Go.Proofs.YtlokmdjhpaimbaaDoor.Q Go.Proofs.YtlokmdjhpaimbaaDoorW.PrintWords Go.Proofs.YtlokmdjhpaimbaaDoorW.PrintLast Go.Proofs.YtlokmdjhpaimbaaDoorW.PrintMore
open HRead HCore Go.WideShapes
namespace CoreRd
theorem wts_sum : ∀ l : List T, wts l = (l.map wt).sum
  | [] => rfl
  | x :: r => by simp only [wts, List.map_cons, List.sum_cons, wts_sum r]
theorem oks_of : ∀ l : List T, (∀ y ∈ l, Ok y) → Oks l
  | [], _ => trivial
  | x :: r, h => ⟨h x (List.mem_cons_self ..), oks_of r fun y hy => h y (List.mem_cons_of_mem _ hy)⟩
theorem rdTerm : ∀ n, (∀ m, m ≤ n → Rd Tryd.prog k24 24 Ok wt m)
  | 0 => fun m hm => by obtain rfl : m = 0 := by omega
                        exact rd_zero
  | n + 1 => fun m hm => by
    have ih := rdTerm n
    rcases Nat.lt_or_ge m (n + 1) with hlt | hge
    · intro H enc w base spare held cs x hx
      exact ih m (by omega) enc w base spare held cs x hx
    · obtain rfl : m = n + 1 := by omega
      have hs : Rd Tryd.prog (Kd.slice 24 k24) 22 (fun ys => (∀ y ∈ ys, Ok y) ∧ ys.length ≤ 9223372036854775807) (fun ys => (ys.map wt).sum + 1) n := by
        cases n with
        | zero => exact rd_zero
        | succ n => exact rd_slice Tryd.underlying22 (by kernel_rfl) (ih n (by omega))
      intro H enc w base spare held cs x hx
      obtain ⟨y, hK, ⟨o1, o2, _, o3, _⟩, hw⟩ := rd_struct (d := Kd.pair (Kd.int .i64) (Kd.pair (Kd.int .i64) (Kd.pair Kd.string (Kd.slice 24 k24)))) Tryd.underlying24 (by kernel_rfl) (rdf_cons rfl (by kernel_rfl) (rd_int Tryd.underlying3) (rdf_cons rfl (by kernel_rfl) (rd_int Tryd.underlying3) (rdf_cons rfl (by kernel_rfl) (rd_string Tryd.underlying9) (rdf_one rfl (by kernel_rfl) hs)))) enc w base spare held cs x hx
      obtain ⟨a, b, s, l⟩ := y
      refine ⟨⟨a, b, s, l⟩, ?_, ⟨o1, o2, oks_of l o3⟩, ?_⟩
      · obtain ⟨_, _, rfl, rfl, ⟨_, _, rfl, rfl, ⟨_, _, rfl, rfl, ⟨A, c, rfl, hl, g⟩⟩⟩⟩ := hK
        exact k24_mk w ⟨a, b, s, l⟩ hl g
      · have e := wts_sum l
        simp only [wt]
        simp only at hw
        omega
set_option maxRecDepth 100000 in
/-- A term that came in. -/
theorem readTerm {H : Type} {enc : TypeId × Value → H} {W : World} {base0 base : Nat} {spare : Nat → Bool} {held : Bool} {r : Reach} {v : Value} {D : DataW H} {ps : List MemPlace} (hval : Value.okWide Tryd.prog W r base0 24 v)
    (hd : DataW.Trod enc Tryd.prog W base spare held 24 v D ps) :
    ∃ (x : T) (A : Option Addr) (c : Nat), v = .agg #[.int .i64 x.f0, .int .i64 x.f1, .string x.f2, .slice A x.f3.length c] ∧ Kd.C k24 W A x.f3.length x.f3 ∧ x.f3.length ≤ c ∧ Ok x ∧ wt x ≤ Rows.uptoBulk D := by
  obtain ⟨cs, rfl, hsz⟩ := okWide_struct Tryd.underlying24 hval
  obtain ⟨fuel, hf⟩ := hd
  obtain ⟨x, hK, hok, hw⟩ := rdTerm fuel fuel (Nat.le_refl _) enc W base spare held _ _ hf
  obtain ⟨A, c, hcs, hl, hC⟩ := k24_open hK
  refine ⟨x, A, c, ?_, hC, hl, hok, hw⟩
  have : cs.toList = [.int .i64 x.f0, .int .i64 x.f1, .string x.f2, .slice A x.f3.length c] := by simpa [Value.cells] using hcs
  rw [← this]
end CoreRd
end Go.Proofs.YtlokmdjhpaimbaaDoor.Pure

-- Written for this claim.
namespace Go.Proofs.YtlokmdjhpaimbaaDoor.Pure
open Go Go.RowKit
namespace CoreTab
theorem gTab : Tryd.prog.globalNamed "internal/strconv.uint64pow10" = some 0 := by kernel_rfl
theorem gTabType : (Tryd.prog.globals[0]?).map (·.type) = some 102 := by kernel_rfl
theorem data : (Rows.laid_internal_strconv_uint64pow10 : DataW Unit) = Lib.tabData .u64 Lib.pow10Tab := by kernel_rfl
theorem tab_of {W : World} (h : laidMetH Tryd.prog Rows.coreSameUptoRow.laid W) : Lib.TabIs Tryd.prog W "internal/strconv.uint64pow10" .u64 Lib.pow10Tab := by
  rw [MakeChecks.laidMetH_plain _ _ _ (by kernel_rfl)] at h
  have h2 := h.tail.tail
  rw [data] at h2
  exact Lib.tabIs_of_head gTab gTabType Tryd.underlying102 Tryd.underlying93 (by kernel_rfl) (by kernel_rfl) h2
end CoreTab
end Go.Proofs.YtlokmdjhpaimbaaDoor.Pure

-- Written for this claim.
namespace Go.Proofs.YtlokmdjhpaimbaaDoor.Pure
open Go Go.RowKit Go.Proofs.YtlokmdjhpaimbaaDoor.Q Go.WideShapes
namespace CorePair
set_option maxRecDepth 100000 in
/-- Two numbers that came in, as an array. -/
theorem readPair {H : Type} {enc : TypeId × Value → H} {W : World} {base0 base : Nat} {spare : Nat → Bool} {held : Bool} {r : Reach} {v : Value} {D : DataW H} {ps : List MemPlace} (hval : Value.okWide Tryd.prog W r base0 32 v)
    (hd : DataW.Trod enc Tryd.prog W base spare held 32 v D ps) : ∃ a b : Int, v = .agg #[.int .i64 a, .int .i64 b] := by
  have ht := Tryd.underlying32
  have hc : Tryd.prog.cellsOf 32 = 2 := by kernel_rfl
  have hc3 : Tryd.prog.cellsOf 3 = 1 := by kernel_rfl
  have h0 : ∃ cs, v = .agg cs ∧ cs.size = Tryd.prog.cellsOf 32 := by
    simp only [Value.okWide, ht] at hval
    obtain ⟨cs, h1, h2, _⟩ := hval
    exact ⟨cs, h1, h2⟩
  obtain ⟨cs, rfl, hsz⟩ := h0
  obtain ⟨fuel, hf⟩ := hd
  obtain ⟨xs, m, _, _, hl, hxl, hg⟩ := DataW.trod_array ht hf
  have g0 := hg 0 (by omega)
  have g1 := hg 1 (by omega)
  rw [hc3, List.getElem?_eq_getElem (by omega)] at g0 g1
  obtain ⟨a, ha, _, _⟩ := DataW.trod_int Tryd.underlying3 g0
  obtain ⟨b, hb, _, _⟩ := DataW.trod_int Tryd.underlying3 g1
  refine ⟨a, b, ?_⟩
  have hcl : (Value.agg cs).cells.toList = cs.toList := rfl
  rw [hcl] at ha hb
  have hlen : cs.toList.length = 2 := by rw [Array.length_toList, hsz, hc]
  match hcs : cs.toList, hlen with
  | [u, v], _ =>
    rw [hcs] at ha hb
    simp at ha hb
    subst ha; subst hb
    have : cs = #[.int .i64 a, .int .i64 b] := by
      apply Array.ext'
      exact hcs
    rw [this]
end CorePair
end Go.Proofs.YtlokmdjhpaimbaaDoor.Pure
