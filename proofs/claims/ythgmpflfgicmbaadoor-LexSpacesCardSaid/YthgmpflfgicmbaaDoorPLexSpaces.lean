-- Written for this claim.
import Derived.Test.YthgmpflfgicmbaaDoorQx22
import Derived.Test.YthgmpflfgicmbaaDoorPLexPlaceless
namespace Go.Proofs.YthgmpflfgicmbaaDoor.Pure
open Go Go.RowKit Go.Proofs.YthgmpflfgicmbaaDoor.Q Go.Proofs.YthgmpflfgicmbaaDoorW.PrintWords Go.Proofs.YthgmpflfgicmbaaDoorW.PrintLast Go.Proofs.YthgmpflfgicmbaaDoorW.PrintMore
open HLexC (toS)
open HLex (Tok Stands)
open More
theorem gap_behind {g : List UInt8} (hg : ∀ c ∈ g, HLex.blank c = true) (l : List UInt8) (pos : Nat) : HLex.lexs pos (l ++ g) = HLex.lexs pos l := by
  cases g with
  | nil => simp
  | cons c r =>
    rw [HLex.lexs_both (hg c (List.mem_cons_self ..)), HLex.lexs_nil (pos + l.length + 1) (HLex.dw_nil_iff.2 fun d hd => hg d (List.mem_cons_of_mem _ hd))]
    cases HLex.lexs pos l <;> simp [HLex.both]
theorem piece (i : Nat) : ∃ c : UInt8, HLex.blank c = true ∧ ((⟨#[32, 10, 9]⟩ : ByteArray).extract (Int.tmod (i : Int) 3).toNat (wrap64 (Int.tmod (i : Int) 3 + 1)).toNat).data.toList = [c] ∧ 0 ≤ Int.tmod (i : Int) 3 ∧ Int.tmod (i : Int) 3 ≤ wrap64 (Int.tmod (i : Int) 3 + 1) ∧ wrap64 (Int.tmod (i : Int) 3 + 1) ≤ 3 := by
  have h : Int.tmod (i : Int) 3 = 0 ∨ Int.tmod (i : Int) 3 = 1 ∨ Int.tmod (i : Int) 3 = 2 := by
    rw [Int.tmod_eq_emod_of_nonneg (by omega)]; omega
  have w1 : wrap64 1 = 1 := by simp [wrap64]
  have w2 : wrap64 2 = 2 := by simp [wrap64]
  have w3 : wrap64 3 = 3 := by simp [wrap64]
  rcases h with e | e | e <;> rw [e]
  · exact ⟨32, by decide, by rw [show (0 : Int) + 1 = 1 by omega, w1]; rfl, by omega, by rw [show (0 : Int) + 1 = 1 by omega, w1]; omega, by rw [show (0 : Int) + 1 = 1 by omega, w1]; omega⟩
  · exact ⟨10, by decide, by rw [show (1 : Int) + 1 = 2 by omega, w2]; rfl, by omega, by rw [show (1 : Int) + 1 = 2 by omega, w2]; omega, by rw [show (1 : Int) + 1 = 2 by omega, w2]; omega⟩
  · exact ⟨9, by decide, by rw [show (2 : Int) + 1 = 3 by omega, w3]; rfl, by omega, by rw [show (2 : Int) + 1 = 3 by omega, w3]; omega, by rw [show (2 : Int) + 1 = 3 by omega, w3]; omega⟩
theorem spaces_end (a g : ByteArray) (n : Nat) (ha : a.size ≤ 1000) (hn : n ≤ 50) (hgn : g.size = n) (hg : ∀ c ∈ g.data.toList, HLex.blank c = true) : Ev (fun k => gossamerlaw01_LexSpaces.l0 k a n g n) true := by
  have eb : HLex.lex (a ++ g).data.toList = HLex.lex a.data.toList := by
    rw [ByteArray.data_append, Array.toList_append]; exact gap_behind hg _ 0
  have ef : HLex.lex (g ++ a).data.toList = HLex.shift n (HLex.lex a.data.toList) := by
    rw [ByteArray.data_append, Array.toList_append, HLex.lex_lexs, HLex.lexs_blanks hg, HLex.lex_lexs, ← HLex.lexs_shift, size_len, hgn]
  have z1 : (g ++ a).size ≤ 1000000 := by rw [ByteArray.size_append]; omega
  have z2 : (a ++ g).size ≤ 1000000 := by rw [ByteArray.size_append]; omega
  have g1 : g.size + a.size ≤ 9223372036854775807 := by omega
  have g2 : a.size + g.size ≤ 9223372036854775807 := by omega
  cases e0 : HLex.lex a.data.toList with
  | error x =>
    obtain ⟨p, er⟩ := x
    rw [e0] at eb ef
    obtain ⟨hp, hne⟩ := err_is e0
    rw [size_len] at hp
    refine Ev.step (f := fun _ => some true) (fun k => ?_) (Ev.now _)
    conv => lhs; unfold gossamerlaw01_LexSpaces.l0
    rw [if_neg (by omega), all_err (by omega) e0, all_err z1 ef, all_err z2 eb]
    simp only [Option.bind_some, g1, g2, if_true]
    rw [if_neg (by omega), if_pos (by rw [wrap_small (by omega) (by omega)]; omega), if_pos (by simp)]
  | ok ts =>
    rw [e0] at eb ef
    have st := lex_stands e0
    have hl := toks_len _ _ _ st
    have hp := toks_pos _ _ _ st
    rw [size_len] at hl
    rw [shift_ok] at ef
    have epl : (ts.map (later n)).map place0 = ts.map place0 := by rw [List.map_map]; rfl
    have hlast : (if ((ts.map toS).length : Int) = 0 then (some true : Option Bool) else if 0 < (((ts.map (later n)).map toS).length : Int) then if 0 < ((ts.map toS).length : Int) then some ((rd_T33 ((ts.map (later n)).map toS) 0).f3 == wrap64 ((rd_T33 (ts.map toS) 0).f3 + (n : Int))) else none else none) = some true := by
      cases hts : ts with
      | nil => simp
      | cons t us =>
        rw [if_neg (by simp; omega), if_pos (by simp), if_pos (by simp)]
        have ht := hp t (by rw [hts]; exact List.mem_cons_self ..)
        rw [size_len] at ht
        have e1 : (rd_T33 (((t :: us).map (later n)).map toS) 0).f3 = ((t.pos + n : Nat) : Int) := rfl
        have e2 : (rd_T33 ((t :: us).map toS) 0).f3 = (t.pos : Int) := rfl
        rw [e1, e2, wrap_small (by omega) (by omega)]
        simp
    have s1 := same_self (ts.map toS) (by simp; omega)
    have s2 := same_self ((ts.map place0).map toS) (by simp; omega)
    have p1 := placeless_ev ts (by omega)
    have p2 := placeless_ev (ts.map (later n)) (by simp; omega)
    rw [epl] at p2
    refine Ev.step (fun k => ?_) (Ev.bind (f := fun k t => if t = true then (gossamerref01_Same.f k ((ts.map place0).map toS) ((ts.map place0).map toS)).bind fun t289 => if t289 = true then (some true : Option Bool) else none else none) s1 ?_)
    · conv => lhs; unfold gossamerlaw01_LexSpaces.l0
      rw [if_neg (by omega), all_ok (by omega) e0, all_ok z1 ef, all_ok z2 eb]
      simp only [Option.bind_some, g1, g2, if_true, p1, p2, hlast]
    · simp only [if_true]
      refine Ev.bind (f := fun k t289 => if t289 = true then (some true : Option Bool) else none) s2 ?_
      simp only [if_true]
      exact Ev.now _
theorem spaces_loop (a : ByteArray) (n : Nat) (ha : a.size ≤ 1000) (hn : n ≤ 50) : ∀ (d i : Nat) (g : ByteArray), i + d = n → g.size = i → (∀ c ∈ g.data.toList, HLex.blank c = true) → Ev (fun k => gossamerlaw01_LexSpaces.l0 k a n g i) true
  | 0, i, g, h, hs, hb => by
    obtain rfl : i = n := by omega
    exact spaces_end a g i ha hn hs hb
  | d + 1, i, g, h, hs, hb => by
    obtain ⟨c, hc, e1, e2, e3, e4⟩ := piece i
    have hz : ((⟨#[32, 10, 9]⟩ : ByteArray).extract (Int.tmod (i : Int) 3).toNat (wrap64 (Int.tmod (i : Int) 3 + 1)).toNat).size = 1 := by
      rw [← size_len, e1]; rfl
    refine Ev.step (fun k => ?_) (spaces_loop a n ha hn d (i + 1) (g ++ ((⟨#[32, 10, 9]⟩ : ByteArray).extract (Int.tmod (i : Int) 3).toNat (wrap64 (Int.tmod (i : Int) 3 + 1)).toNat)) (by omega) (by rw [ByteArray.size_append, hz]; omega) fun x hx => ?_)
    · conv => lhs; unfold gossamerlaw01_LexSpaces.l0
      rw [if_pos (by omega), if_pos e2, if_pos e3, if_pos e4, if_pos (by rw [hz]; omega), wrap_small (n := (i : Int) + 1) (by omega) (by omega)]
      rfl
    · rw [ByteArray.data_append, Array.toList_append, e1] at hx
      rcases List.mem_append.1 hx with hx | hx
      · exact hb x hx
      · simp at hx; subst hx; exact hc
theorem LexSpaces (a0 : ByteArray) (a1 : Int) (_h : a0.size ≤ 140737488351232) (_h1 : (Lit.int .i64 a1).wf = true) : ∃ k, gossamerlaw01_LexSpaces.f k a0 a1 = some true := by
  refine Ev.rounds (g := fun k => gossamerlaw01_LexSpaces.f k a0 a1) ?_
  unfold gossamerlaw01_LexSpaces.f
  refine Ev.bind fixed_ev ?_
  simp only [if_true]
  have big : Ev (fun k => gossamerlaw01_LexSpaces.j0 k a0 a1 true) true := by
    refine Ev.step (fun k => ?_) (Ev.bind (f := fun _ t => some t) fixed_ev (Ev.now true))
    rw [gossamerlaw01_LexSpaces.j0, if_pos rfl]
  by_cases hs : (a0.size : Int) > 1000
  · simp only [hs, if_true]; exact big
  · simp only [hs, if_false]
    by_cases h0 : a1 < 0
    · simp only [h0, if_true]; exact big
    · simp only [h0, if_false]
      by_cases h5 : a1 > 50
      · have hd : decide (a1 > 50) = true := by simpa using h5
        rw [hd]; exact big
      · have hd : decide (a1 > 50) = false := by simpa using h5
        rw [hd]
        obtain ⟨n, rfl⟩ : ∃ n : Nat, a1 = n := ⟨a1.toNat, by omega⟩
        refine Ev.step (fun k => ?_) (spaces_loop a0 n (by omega) (by omega) n 0 (⟨#[]⟩ : ByteArray) (by omega) rfl (by simp))
        rw [gossamerlaw01_LexSpaces.j0, if_neg (by simp)]
        rfl
end Go.Proofs.YthgmpflfgicmbaaDoor.Pure
