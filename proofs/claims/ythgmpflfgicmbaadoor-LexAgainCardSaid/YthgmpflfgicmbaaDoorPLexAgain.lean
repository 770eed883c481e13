-- Written for this claim.
import Derived.Test.YthgmpflfgicmbaaDoorQx19
import Derived.Test.YthgmpflfgicmbaaDoorPLexPlaceless
import Derived.Test.YthgmpflfgicmbaaDoorHLexKind
namespace Go.Proofs.YthgmpflfgicmbaaDoor.Pure
open Go Go.RowKit Go.Proofs.YthgmpflfgicmbaaDoor.Q Go.Proofs.YthgmpflfgicmbaaDoorW.PrintWords Go.Proofs.YthgmpflfgicmbaaDoorW.PrintLast Go.Proofs.YthgmpflfgicmbaaDoorW.PrintMore
open HLexC (toS)
open HLex (Tok Stands)
open More
namespace Again
theorem wordly_noblank {c : UInt8} (h : HLex.wordly c = true) : HLex.blank c = false := by
  cases hb : HLex.blank c with
  | false => rfl
  | true => rw [(HLex.blank_not hb).1] at h; cases h
theorem first_noblank {r t : List UInt8} {k n : Nat} (h : HLex.first r = .ok (k, t, n)) : t.dropWhile HLex.blank = t := by
  have hne := (HLex.first_pre h).2
  cases t with
  | nil => exact absurd rfl hne
  | cons c u =>
    refine HLex.dw_self ?_
    generalize ht : c :: u = t at h
    cases HLex.first_is h with
    | word h1 h2 =>
      have := HLex.tw_all HLex.wordly r c (by rw [← ht]; exact List.mem_cons_self ..)
      exact wordly_noblank this
    | sign h1 h2 => exact (HLex.sign_facts _ (List.mem_of_find?_eq_some h2)).2.2.2 c (by rw [← ht]; exact List.mem_cons_self ..)
theorem one (t : Tok) (h : HLex.first t.text = .ok (t.kind, t.text, t.n)) (pos : Nat) : HLex.lexs pos t.text = .ok [⟨t.kind, t.text, t.n, pos⟩] := by
  have e := first_noblank h
  have hne := (HLex.first_pre h).2
  rw [HLex.lexs_tok pos (by rw [e]; exact hne) (by rw [e]; exact h), e]
  simp only [List.drop_length, Nat.sub_self, Nat.add_zero]
  rw [HLex.lexs_nil _ (by rfl)]
  rfl
theorem relex : ∀ (ts : List Tok), (∀ t ∈ ts, HLex.first t.text = .ok (t.kind, t.text, t.n)) → ∀ pos, ∃ us, HLex.lexs pos (Lib.join (ts.map (·.text)) [32]) = .ok us ∧ us.map place0 = ts.map place0
  | [], _, pos => ⟨[], HLex.lexs_nil _ (by rfl), rfl⟩
  | [t], h, pos => ⟨[⟨t.kind, t.text, t.n, pos⟩], by rw [show Lib.join ([t].map (·.text)) [32] = t.text by simp [Lib.join, List.intercalate]]; exact one t (h t (List.mem_cons_self ..)) pos, rfl⟩
  | t :: u :: r, h, pos => by
    obtain ⟨us, e1, e2⟩ := relex (u :: r) (fun x hx => h x (List.mem_cons_of_mem _ hx)) (pos + t.text.length + 1)
    refine ⟨⟨t.kind, t.text, t.n, pos⟩ :: us, ?_, ?_⟩
    · have : Lib.join ((t :: u :: r).map (·.text)) [32] = t.text ++ 32 :: Lib.join ((u :: r).map (·.text)) [32] := by simp [Lib.join, List.intercalate]
      rw [this, HLex.lexs_both (by decide), e1, one t (h t (List.mem_cons_self ..)) pos]
      rfl
    · rw [List.map_cons, e2]; rfl
theorem join_len : ∀ (s : List UInt8) (us : List Tok) (x : Nat), Stands s x us → x + (Lib.join (us.map (·.text)) [32]).length ≤ s.length + us.length
  | s, [], x, st => by have := st.1; simp [Lib.join, List.intercalate]; omega
  | s, [t], x, st => by
    obtain ⟨s1, s2, s3, s4, s5, s6⟩ := st
    simp [Lib.join, List.intercalate]; omega
  | s, t :: u :: r, x, st => by
    obtain ⟨s1, s2, s3, s4, s5, s6⟩ := st
    have := join_len s (u :: r) _ s6
    have e : Lib.join ((t :: u :: r).map (·.text)) [32] = t.text ++ 32 :: Lib.join ((u :: r).map (·.text)) [32] := by simp [Lib.join, List.intercalate]
    rw [e]; simp at this ⊢; omega
theorem joined_is (ts : List Tok) : HLexC.joined ((ts.map toS).map (·.f1)) = Lib.join (ts.map (·.text)) [32] := by
  unfold HLexC.joined; rw [List.map_map, List.map_map]; rfl
theorem text_of (ts : List Tok) (h1 : ts.length ≤ 1000000) (h2 : (Lib.join (ts.map (·.text)) [32]).length ≤ 140737488355328) : lex_Text.f (ts.map toS) = some ⟨(Lib.join (ts.map (·.text)) [32]).toArray⟩ := by
  unfold lex_Text.f
  rw [if_pos (by simpa using h1), joined_is, if_pos h2]
theorem texts_place0 (ts : List Tok) : ts.map (·.text) = (ts.map place0).map (·.text) := by rw [List.map_map]; rfl
end Again
open Again
theorem LexAgain (a0 : ByteArray) (_h : a0.size ≤ 140737488351232) : ∃ k, gossamerlaw01_LexAgain.f k a0 = some true := by
  refine Ev.rounds (g := fun k => gossamerlaw01_LexAgain.f k a0) ?_
  unfold gossamerlaw01_LexAgain.f
  refine Ev.bind fixed_ev ?_
  simp only [if_true]
  by_cases hs : a0.size ≤ 2000
  · have hd : decide ((a0.size : Int) > 2000) = false := by simp; omega
    rw [hd]
    cases e : HLex.lex a0.data.toList with
    | error x =>
      obtain ⟨p, er⟩ := x
      obtain ⟨hp, hne⟩ := err_is e
      refine Ev.step (f := fun _ => some true) (fun k => ?_) (Ev.now _)
      rw [gossamerlaw01_LexAgain.j0, if_neg (by simp), all_err (by omega) e]
      simp only [Option.bind_some]
      rw [if_neg (by omega)]; simp
    | ok ts =>
      have st := lex_stands e
      have hl := toks_len _ _ _ st
      have hj := join_len _ _ _ st
      rw [size_len] at hl hj
      obtain ⟨us, e1, e2⟩ := relex ts (HLex.tok_first _ _ _ e) 0
      have hul : us.length = ts.length := by have := congrArg List.length e2; simpa using this
      have t1 := text_of ts (by omega) (by omega)
      have etx : Lib.join (us.map (·.text)) [32] = Lib.join (ts.map (·.text)) [32] := by rw [texts_place0 us, e2, ← texts_place0]
      have t2 := text_of us (by omega) (by rw [etx]; omega)
      rw [etx] at t2
      have ea : lex_All.f ⟨(Lib.join (ts.map (·.text)) [32]).toArray⟩ = some (us.map toS, 0, 0) := all_ok (by
        show (Lib.join (ts.map (·.text)) [32]).toArray.size ≤ 1000000
        rw [List.size_toArray]; omega) (by rw [List.toList_toArray]; exact e1)
      have p1 := placeless_ev ts (by omega)
      have p2 := placeless_ev us (by omega)
      rw [e2] at p2
      have s2 := same_self ((ts.map place0).map toS) (by simp; omega)
      refine Ev.step (fun k => ?_) (Ev.bind (f := fun k t214 => if t214 = true then (some true : Option Bool) else none) s2 ?_)
      · rw [gossamerlaw01_LexAgain.j0, if_neg (by simp), all_ok (by omega) e]
        simp only [Option.bind_some, if_true, t1, ea, p1, p2, t2, beq_self_eq_true]
      · simp only [if_true]
        exact Ev.now _
  · have hd : decide ((a0.size : Int) > 2000) = true := by simp; omega
    rw [hd]
    refine Ev.step (fun k => ?_) (Ev.bind (f := fun _ t => some t) fixed_ev (Ev.now true))
    rw [gossamerlaw01_LexAgain.j0, if_pos rfl]
end Go.Proofs.YthgmpflfgicmbaaDoor.Pure
