-- Written for this claim.
import Derived.Test.YthdkjfhpbigdpaaDoorQx26
import Derived.Test.YthdkjfhpbigdpaaDoorQx1
import Derived.Test.YthdkjfhpbigdpaaDoorQx5
import Derived.Test.YthdkjfhpbigdpaaDoorPTreeEv
import Derived.Test.YthdkjfhpbigdpaaDoorHLexAll
namespace Go.Proofs.YthdkjfhpbigdpaaDoor.Pure
open Go Go.RowKit Go.Proofs.YthdkjfhpbigdpaaDoor.Q Go.Proofs.YthdkjfhpbigdpaaDoorW.PrintWords Go.Proofs.YthdkjfhpbigdpaaDoorW.PrintLast Go.Proofs.YthdkjfhpbigdpaaDoorW.PrintMore
open HTree TreeEv
/-! Plain Lean: what the printed One and Bare give, and what being the same has to do with being bare. -/
namespace TreeOne
theorem one_loop (x y : T) (hl : x.f4.length ≤ 1000000000) (hlen : x.f4.length = y.f4.length) (H : ∀ a ∈ x.f4, ∀ b : T, Ev (fun k => gossamerref02_One.f k a.f0 a.f1 a.f2 a.f3 a.f4 b.f0 b.f1 b.f2 b.f3 b.f4) (one a b)) :
    ∀ (r r' : List T) (i : Nat), x.f4.drop i = r → y.f4.drop i = r' → Ev (fun k => gossamerref02_One.l0 k i x.f0 x.f1 x.f2 x.f3 x.f4 y.f0 y.f1 y.f2 y.f3 y.f4) (ones r r')
  | [], r', i, h, h' => by
    have h1 := List.drop_eq_nil_iff.1 h
    have : r' = [] := by rw [← h']; exact List.drop_eq_nil_of_le (by omega)
    subst this
    refine Ev.step (f := fun _ => some _) (fun k => ?_) (Ev.now _)
    rw [gossamerref02_One.l0, if_neg (by omega)]; rfl
  | a :: r, r', i, h, h' => by
    obtain ⟨hg, hi, hn⟩ := at_drop h
    cases r' with
    | nil => have := List.drop_eq_nil_iff.1 h'; omega
    | cons b r' =>
      obtain ⟨hg', hi', hn'⟩ := at_drop h'
      refine Ev.step (f := fun k => (gossamerref02_One.f k a.f0 a.f1 a.f2 a.f3 a.f4 b.f0 b.f1 b.f2 b.f3 b.f4).bind fun t => if t = true then gossamerref02_One.l0 k (wrap64 (i + 1)) x.f0 x.f1 x.f2 x.f3 x.f4 y.f0 y.f1 y.f2 y.f3 y.f4 else some false) (fun k => ?_) (Ev.bind (H a (List.mem_of_getElem? hg) b) ?_)
      · rw [gossamerref02_One.l0, if_pos (by omega), if_pos (by omega), if_pos (by omega), rd_at _ i a hg, rd_at _ i b hg']
      · simp only [ones]
        cases one a b with
        | true =>
          simp only [if_true, Bool.true_and]
          rw [TreeEv.wrap_small (by omega) (by omega)]
          have ih := one_loop x y hl hlen H r r' (i + 1) hn hn'
          have e2 : ((i : Int) + 1) = ((i + 1 : Nat) : Int) := by omega
          rw [e2]; exact ih
        | false => simp only [Bool.false_eq_true, if_false, Bool.false_and]; exact Ev.now _
theorem one_no (x y : T) : Ev (fun k => gossamerref02_One.j0 k true x.f0 x.f1 x.f2 x.f3 x.f4 y.f0 y.f1 y.f2 y.f3 y.f4) false := Ev.step (f := fun _ => some false) (fun k => by rw [gossamerref02_One.j0, if_pos rfl]) (Ev.now _)
theorem ones_len : ∀ l l' : List T, ¬ l.length = l'.length → ones l l' = false
  | [], [], h => absurd rfl h
  | [], _ :: _, _ => rfl
  | _ :: _, [], _ => rfl
  | x :: l, y :: l', h => by
    simp only [List.length_cons] at h
    simp only [ones, ones_len l l' (by omega), Bool.and_false]
theorem one_is (x y : T) : one x y = (decide (x.f0 = y.f0) && decide (x.f1.data.toList = y.f1.data.toList) && decide (x.f2 = y.f2) && decide (x.f3 = y.f3) && ones x.f4 y.f4) := by cases x; cases y; rfl
theorem one_ev : ∀ (n : Nat) (x : T), height x ≤ n → size x ≤ 1000000000 → ∀ y : T, Ev (fun k => gossamerref02_One.f k x.f0 x.f1 x.f2 x.f3 x.f4 y.f0 y.f1 y.f2 y.f3 y.f4) (one x y)
  | 0, x, hn, _, _ => by cases x; simp only [height] at hn; omega
  | n + 1, x, hn, hs, y => by
    have hh : height x = heights x.f4 + 1 := by cases x; rfl
    have hz : size x = sizes x.f4 + 1 := by cases x; rfl
    have H : ∀ a ∈ x.f4, ∀ b : T, Ev (fun k => gossamerref02_One.f k a.f0 a.f1 a.f2 a.f3 a.f4 b.f0 b.f1 b.f2 b.f3 b.f4) (one a b) := fun a ha b => one_ev n a (by have := height_get ha; omega) (by have := size_get ha; omega) b
    rw [one_is]
    by_cases h0 : x.f0 = y.f0
    · by_cases h1 : x.f1.data.toList = y.f1.data.toList
      · have h1' : x.f1.toList = y.f1.toList := by rw [Lib.toList_data, Lib.toList_data]; exact h1
        by_cases h2 : x.f2 = y.f2
        · by_cases h3 : x.f3 = y.f3
          · rw [decide_eq_true h0, decide_eq_true h1, decide_eq_true h2, decide_eq_true h3]
            refine Ev.step (f := fun k => gossamerref02_One.j0 k ((x.f4.length : Int) != (y.f4.length : Int)) x.f0 x.f1 x.f2 x.f3 x.f4 y.f0 y.f1 y.f2 y.f3 y.f4) (fun k => by rw [gossamerref02_One.f, if_pos h0, if_pos h1', if_pos h2, if_pos h3]) ?_
            by_cases hl : x.f4.length = y.f4.length
            · have e : ((x.f4.length : Int) != (y.f4.length : Int)) = false := bne_eq_false_iff_eq.2 (by omega)
              rw [e]
              refine Ev.step (f := fun k => gossamerref02_One.l0 k 0 x.f0 x.f1 x.f2 x.f3 x.f4 y.f0 y.f1 y.f2 y.f3 y.f4) (fun k => by rw [gossamerref02_One.j0, if_neg (by simp)]) ?_
              have := one_loop x y (by have := len_sizes x.f4; omega) hl H x.f4 y.f4 0 rfl rfl
              simpa using this
            · have e : ((x.f4.length : Int) != (y.f4.length : Int)) = true := bne_iff_ne.2 (by omega)
              rw [e, ones_len _ _ hl]; exact one_no x y
          · rw [decide_eq_false h3, Bool.and_false, Bool.false_and]
            exact Ev.step (f := fun k => gossamerref02_One.j0 k true x.f0 x.f1 x.f2 x.f3 x.f4 y.f0 y.f1 y.f2 y.f3 y.f4) (fun k => by rw [gossamerref02_One.f, if_pos h0, if_pos h1', if_pos h2, if_neg h3]) (one_no x y)
        · rw [decide_eq_false h2, Bool.and_false, Bool.false_and, Bool.false_and]
          exact Ev.step (f := fun k => gossamerref02_One.j0 k true x.f0 x.f1 x.f2 x.f3 x.f4 y.f0 y.f1 y.f2 y.f3 y.f4) (fun k => by rw [gossamerref02_One.f, if_pos h0, if_pos h1', if_neg h2]) (one_no x y)
      · have h1' : ¬ x.f1.toList = y.f1.toList := by rw [Lib.toList_data, Lib.toList_data]; exact h1
        rw [decide_eq_false h1, Bool.and_false, Bool.false_and, Bool.false_and, Bool.false_and]
        exact Ev.step (f := fun k => gossamerref02_One.j0 k true x.f0 x.f1 x.f2 x.f3 x.f4 y.f0 y.f1 y.f2 y.f3 y.f4) (fun k => by rw [gossamerref02_One.f, if_pos h0, if_neg h1']) (one_no x y)
    · rw [decide_eq_false h0, Bool.false_and, Bool.false_and, Bool.false_and, Bool.false_and]
      exact Ev.step (f := fun k => gossamerref02_One.j0 k true x.f0 x.f1 x.f2 x.f3 x.f4 y.f0 y.f1 y.f2 y.f3 y.f4) (fun k => by rw [gossamerref02_One.f, if_neg h0]) (one_no x y)
def flat (x : T) : Int × ByteArray × Int × Int × List T := (x.f0, x.f1, x.f2, x.f3, x.f4)
theorem bare_loop (x : T) (hl : x.f4.length ≤ 1000000000) (H : ∀ a ∈ x.f4, Ev (fun k => tree_Bare.f k a.f0 a.f1 a.f2 a.f3 a.f4) (flat (bare a))) :
    ∀ (r : List T) (i : Nat) (acc : List T), x.f4.drop i = r → acc.length = i → Ev (fun k => tree_Bare.l0 k acc x.f4 x.f4.length i x.f0 x.f1 x.f2 x.f3 x.f4) (x.f0, x.f1, x.f2, 0, acc ++ bares r)
  | [], i, acc, h, ha => by
    have := List.drop_eq_nil_iff.1 h
    refine Ev.step (f := fun _ => some _) (fun k => ?_) (Ev.now _)
    rw [tree_Bare.l0, if_neg (by omega)]; simp [bares]
  | a :: r, i, acc, h, ha => by
    obtain ⟨hg, hi, hn⟩ := at_drop h
    refine Ev.step (f := fun k => (tree_Bare.f k a.f0 a.f1 a.f2 a.f3 a.f4).bind fun bt => if acc.length < 2199023255552 then tree_Bare.l0 k (acc ++ [⟨bt.1, bt.2.1, bt.2.2.1, bt.2.2.2.1, bt.2.2.2.2⟩]) x.f4 x.f4.length (wrap64 (i + 1)) x.f0 x.f1 x.f2 x.f3 x.f4 else none) (fun k => ?_) (Ev.bind (H a (List.mem_of_getElem? hg)) ?_)
    · rw [tree_Bare.l0, if_pos (by omega), if_pos (by omega), if_pos (by omega), rd_at _ i a hg]
    · have e2 : ((i : Int) + 1) = ((i + 1 : Nat) : Int) := by omega
      have ih := bare_loop x hl H r (i + 1) (acc ++ [bare a]) hn (by simp [ha])
      have e3 : acc ++ [bare a] ++ bares r = acc ++ bares (a :: r) := by simp [bares]
      rw [e3] at ih
      have e4 : acc.length < 2199023255552 := by omega
      have e5 : (⟨(bare a).f0, (bare a).f1, (bare a).f2, (bare a).f3, (bare a).f4⟩ : T) = bare a := by cases bare a; rfl
      simp only [e4, if_true, flat]
      rw [e5]
      rw [TreeEv.wrap_small (by omega) (by omega), e2]; exact ih
theorem bare_ev : ∀ (n : Nat) (x : T), height x ≤ n → size x ≤ 1000000000 → Ev (fun k => tree_Bare.f k x.f0 x.f1 x.f2 x.f3 x.f4) (flat (bare x))
  | 0, x, hn, _ => by cases x; simp only [height] at hn; omega
  | n + 1, x, hn, hs => by
    have hh : height x = heights x.f4 + 1 := by cases x; rfl
    have hz : size x = sizes x.f4 + 1 := by cases x; rfl
    have H : ∀ a ∈ x.f4, Ev (fun k => tree_Bare.f k a.f0 a.f1 a.f2 a.f3 a.f4) (flat (bare a)) := fun a ha => bare_ev n a (by have := height_get ha; omega) (by have := size_get ha; omega)
    refine Ev.step (f := fun k => tree_Bare.l0 k [] x.f4 x.f4.length 0 x.f0 x.f1 x.f2 x.f3 x.f4) (fun k => by rw [tree_Bare.f]) ?_
    have := bare_loop x (by have := len_sizes x.f4; omega) H x.f4 0 [] rfl rfl
    have e : flat (bare x) = (x.f0, x.f1, x.f2, 0, [] ++ bares x.f4) := by cases x; rfl
    rw [e]; exact this
mutual
theorem one_bare : ∀ x y : T, one (bare x) (bare y) = same x y
  | ⟨k, s, n, a, l⟩, ⟨k', s', n', a', l'⟩ => by simp [bare, one, same, ones_bares l l']
theorem ones_bares : ∀ l l' : List T, ones (bares l) (bares l') = sames l l'
  | [], [] => rfl
  | [], _ :: _ => rfl
  | _ :: _, [] => rfl
  | x :: l, y :: l' => by simp [bares, ones, sames, one_bare x y, ones_bares l l']
end
mutual
theorem bare_bare : ∀ x : T, bare (bare x) = bare x
  | ⟨k, s, n, a, l⟩ => by simp [bare, bares_bares l]
theorem bares_bares : ∀ l : List T, bares (bares l) = bares l
  | [] => rfl
  | x :: l => by simp [bares, bare_bare x, bares_bares l]
end
mutual
theorem one_eq : ∀ x y : T, one x y = true → x = y
  | ⟨k, s, n, a, l⟩, ⟨k', s', n', a', l'⟩, h => by
    simp only [one, Bool.and_eq_true, decide_eq_true_eq] at h
    obtain ⟨⟨⟨⟨h1, h2⟩, h3⟩, h4⟩, h5⟩ := h
    have e := ones_eq l l' h5
    have es : s = s' := (HLexC.bytes_eq_iff _ _).2 h2
    subst h1; subst h3; subst h4; subst e; subst es; rfl
theorem ones_eq : ∀ l l' : List T, ones l l' = true → l = l'
  | [], [], _ => rfl
  | [], _ :: _, h => by simp [ones] at h
  | _ :: _, [], h => by simp [ones] at h
  | x :: l, y :: l', h => by
    simp only [ones, Bool.and_eq_true] at h
    rw [one_eq x y h.1, ones_eq l l' h.2]
end
mutual
theorem one_refl : ∀ x : T, one x x = true
  | ⟨k, s, n, a, l⟩ => by simp [one, ones_refl l]
theorem ones_refl : ∀ l : List T, ones l l = true
  | [] => rfl
  | x :: l => by simp [ones, one_refl x, ones_refl l]
end
theorem same_bare_eq {x y : T} (h : same x y = true) : bare x = bare y := one_eq _ _ (by rw [one_bare]; exact h)
theorem same_of_bare {x y : T} (h : bare x = bare y) : same x y = true := by rw [← one_bare, h]; exact one_refl _
theorem same_comm (x y : T) : same y x = same x y := by
  cases h : same x y with
  | true => exact same_of_bare (same_bare_eq h).symm
  | false =>
    cases h2 : same y x with
    | false => rfl
    | true => rw [same_of_bare (same_bare_eq h2).symm] at h; cases h
theorem same_bare (x : T) : same x (bare x) = true := same_of_bare (bare_bare x).symm
mutual
theorem height_bare : ∀ x : T, height (bare x) = height x
  | ⟨k, s, n, a, l⟩ => by simp [bare, height, heights_bares l]
theorem heights_bares : ∀ l : List T, heights (bares l) = heights l
  | [] => rfl
  | x :: l => by simp [bares, heights, height_bare x, heights_bares l]
end
mutual
theorem size_bare : ∀ x : T, size (bare x) = size x
  | ⟨k, s, n, a, l⟩ => by simp [bare, size, sizes_bares l]
theorem sizes_bares : ∀ l : List T, sizes (bares l) = sizes l
  | [] => rfl
  | x :: l => by simp [bares, sizes, size_bare x, sizes_bares l]
end
mutual
theorem wt_bare : ∀ x : T, wt (bare x) = wt x
  | ⟨k, s, n, a, l⟩ => by simp [bare, wt, wts_bares l]
theorem wts_bares : ∀ l : List T, wts (bares l) = wts l
  | [] => rfl
  | x :: l => by simp [bares, wts, wt_bare x, wts_bares l]
end
end TreeOne
end Go.Proofs.YthdkjfhpbigdpaaDoor.Pure
