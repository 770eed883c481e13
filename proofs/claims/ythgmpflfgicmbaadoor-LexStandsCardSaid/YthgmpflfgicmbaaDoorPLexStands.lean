-- Written for this claim.
import Derived.Test.YthgmpflfgicmbaaDoorQx20
import Derived.Test.YthgmpflfgicmbaaDoorPLexLib
namespace Go.Proofs.YthgmpflfgicmbaaDoor.Pure
open Go Go.RowKit Go.Proofs.YthgmpflfgicmbaaDoor.Q Go.Proofs.YthgmpflfgicmbaaDoorW.PrintWords Go.Proofs.YthgmpflfgicmbaaDoorW.PrintLast Go.Proofs.YthgmpflfgicmbaaDoorW.PrintMore
open HLexC (toS)
open HLex (Tok Stands)

theorem all_ok {a : ByteArray} {ts : List Tok} (h : a.size ≤ 1000000) (e : HLex.lex a.data.toList = .ok ts) : lex_All.f a = some (ts.map toS, 0, 0) := by
  unfold lex_All.f; rw [if_pos h, e]
theorem all_err {a : ByteArray} {p er : Nat} (h : a.size ≤ 1000000) (e : HLex.lex a.data.toList = .error (p, er)) : lex_All.f a = some ([], (p : Int), (er : Int)) := by
  unfold lex_All.f; rw [if_pos h, e]
theorem bt_get (a : ByteArray) (i : Nat) (h : i < a.data.toList.length) : bt a i = (a.data.toList[i].toNat : Int) := by
  unfold bt
  have h' : i < a.size := by simpa using h
  simp [h']
  rfl
theorem bt_blank (a : ByteArray) (i : Nat) (h : i < a.data.toList.length) (hb : HLex.blank a.data.toList[i] = true) : bt a i = 32 ∨ bt a i = 10 ∨ bt a i = 9 := by
  rw [bt_get a i h]
  have h' : a.data.toList[i] = 32 ∨ a.data.toList[i] = 10 ∨ a.data.toList[i] = 9 := by simpa [HLex.blank, or_assoc] using hb
  rcases h' with e | e | e <;> rw [e] <;> simp
theorem rd_tok (ts : List Tok) (i : Nat) (h : i < ts.length) : rd_T33 (ts.map toS) i = toS ts[i] := by
  unfold rd_T33; simp [List.getD, h]

namespace LexStandsP
theorem len (a : ByteArray) : a.data.toList.length = a.size := by simp
theorem l2_ev (a : ByteArray) (hs : a.size ≤ 2000) : ∀ (d i : Nat), i + d = a.size → (∀ j, i ≤ j → (h : j < a.data.toList.length) → HLex.blank a.data.toList[j] = true) → Ev (fun k => gossamerlaw01_LexStands.l2 k a i) true
  | 0, i, h, _ => Ev.step (f := fun _ => some true) (fun k => by unfold gossamerlaw01_LexStands.l2; rw [if_neg (by omega)]) (Ev.now _)
  | d + 1, i, h, hb => by
    have hl := len a
    refine Ev.step (f := fun k => gossamerlaw01_LexStands.l2 k a ((i + 1 : Nat) : Int)) (fun k => ?_) (l2_ev a hs d (i + 1) (by omega) fun j hj h' => hb j (by omega) h')
    conv => lhs; unfold gossamerlaw01_LexStands.l2
    rw [if_pos (by omega), if_pos (by omega), wrap_small (by omega) (by omega)]
    rcases bt_blank a i (by omega) (hb i (Nat.le_refl _) (by omega)) with e | e | e <;> simp [e]
theorem l1_ev (a : ByteArray) (hs : a.size ≤ 2000) (ts : List Tok) (i : Nat) (hi : i < ts.length) (t : Tok) (ht : ts[i] = t) (hn : ts.length ≤ 2000)
    (hp : t.pos + t.text.length ≤ a.size) (hte : (a.data.toList.drop t.pos).take t.text.length = t.text)
    (go : Ev (fun k => gossamerlaw01_LexStands.l0 k a (ts.map toS) ((t.pos + t.text.length : Nat) : Int) ((i + 1 : Nat) : Int)) true) :
    ∀ (d x : Nat), x + d = t.pos → (∀ j, x ≤ j → j < t.pos → (h : j < a.data.toList.length) → HLex.blank a.data.toList[j] = true) → Ev (fun k => gossamerlaw01_LexStands.l1 k a (ts.map toS) x i) true
  | 0, x, h, _ => by
    obtain rfl : x = t.pos := by omega
    have hl := len a
    refine Ev.step (fun k => ?_) go
    conv => lhs; unfold gossamerlaw01_LexStands.l1
    rw [rd_tok ts i hi, ht]
    have e1 : wrap64 ((t.pos : Int) + ((toS t).f1.size : Int)) = ((t.pos + t.text.length : Nat) : Int) := by
      have : (toS t).f1.size = t.text.length := List.size_toArray
      rw [this, wrap_small (by omega) (by omega)]; omega
    have e2 : (toS t).f3 = (t.pos : Int) := rfl
    have e3 : (toS t).f1.toList = t.text := by rw [Lib.toList_data]; simp [toS]
    rw [if_pos (by omega), if_pos (by simp; omega), e1, e2, if_neg (by omega), if_pos (by omega), if_pos (by omega), if_pos (by omega), e3, if_pos, wrap_small (by omega) (by omega)]
    · rfl
    · rw [Lib.toList_data, ByteArray.data_extract, Array.toList_extract]
      simp only [Int.toNat_natCast]
      rw [List.extract_eq_take_drop, show t.pos + t.text.length - t.pos = t.text.length by omega]
      exact hte
  | d + 1, x, h, hb => by
    have hl := len a
    refine Ev.step (f := fun k => gossamerlaw01_LexStands.l1 k a (ts.map toS) ((x + 1 : Nat) : Int) i) (fun k => ?_) (l1_ev a hs ts i hi t ht hn hp hte go d (x + 1) (by omega) fun j hj h1 h2 => hb j (by omega) h1 h2)
    conv => lhs; unfold gossamerlaw01_LexStands.l1
    rw [rd_tok ts i hi, ht]
    have e2 : (toS t).f3 = (t.pos : Int) := rfl
    rw [if_pos (by omega), if_pos (by simp; omega), e2, if_pos (by omega), if_pos (by omega), if_pos (by omega), wrap_small (by omega) (by omega)]
    rcases bt_blank a x (by omega) (hb x (Nat.le_refl _) (by omega) (by omega)) with e | e | e <;> simp [e]
theorem l0_ev (a : ByteArray) (hs : a.size ≤ 2000) (ts : List Tok) (hn : ts.length ≤ 2000) : ∀ (us : List Tok) (i x : Nat), ts.drop i = us → i ≤ ts.length → Stands a.data.toList x us → Ev (fun k => gossamerlaw01_LexStands.l0 k a (ts.map toS) x i) true
  | [], i, x, h, hi, st => by
    have hl := len a
    have : i = ts.length := by have := congrArg List.length h; simp at this; omega
    refine Ev.step (fun k => ?_) (l2_ev a hs (a.size - x) x (by have := st.1; omega) st.2)
    conv => lhs; unfold gossamerlaw01_LexStands.l0
    rw [if_neg (by simp; omega)]
  | t :: us, i, x, h, hi, st => by
    have hl := len a
    obtain ⟨s1, s2, s3, s4, s5, s6⟩ := st
    have hlt : i < ts.length := by have := congrArg List.length h; simp at this; omega
    have ht : ts[i] = t := by
      have := List.getElem_cons_drop hlt
      rw [h] at this; exact (List.cons.inj this).1
    have hd : ts.drop (i + 1) = us := by
      have := List.getElem_cons_drop hlt
      rw [h] at this; exact (List.cons.inj this).2
    have g0 := l0_ev a hs ts hn us (i + 1) _ hd (by omega) s6
    have g1 := l1_ev a hs ts i hlt t ht hn (by omega) s5 g0 (t.pos - x) x (by omega) s4
    refine Ev.step (f := fun k => gossamerlaw01_LexStands.j2 k a (ts.map toS) x i false) (fun k => ?_) (Ev.step (fun k => ?_) g1)
    · conv => lhs; unfold gossamerlaw01_LexStands.l0
      rw [rd_tok ts i hlt, ht]
      have e1 : wrap64 ((toS t).f3 + ((toS t).f1.size : Int)) = ((t.pos + t.text.length : Nat) : Int) := by
        have : (toS t).f1.size = t.text.length := List.size_toArray
        have e2 : (toS t).f3 = (t.pos : Int) := rfl
        rw [this, e2, wrap_small (by omega) (by omega)]; omega
      have e2 : (toS t).f3 = (t.pos : Int) := rfl
      have e3 : (toS t).f1.toList = t.text := by rw [Lib.toList_data]; simp [toS]
      rw [if_pos (by simp; omega), if_pos (by omega), e1, e2, if_neg (by omega), if_neg (by omega), e3]
      congr 1
      simpa using s3
    · rw [gossamerlaw01_LexStands.j2]
      rw [if_neg (by simp)]
end LexStandsP
theorem toks_len : ∀ (s : List UInt8) (us : List Tok) (x : Nat), Stands s x us → x + us.length ≤ s.length
  | s, [], x, st => by simpa using st.1
  | s, t :: us, x, st => by
    obtain ⟨s1, s2, s3, s4, s5, s6⟩ := st
    have := toks_len s us _ s6
    have : 0 < t.text.length := List.length_pos_iff.2 s3
    simp; omega
theorem lex_stands {s : List UInt8} {ts : List Tok} (h : HLex.lex s = .ok ts) : Stands s 0 ts := HLex.stands s s 0 ts (by simp) (by omega) h
theorem LexStands (a0 : ByteArray) (_h : a0.size ≤ 140737488351232) : ∃ k, gossamerlaw01_LexStands.f k a0 = some true := by
  refine Ev.rounds (g := fun k => gossamerlaw01_LexStands.f k a0) ?_
  unfold gossamerlaw01_LexStands.f
  refine Ev.bind fixed_ev ?_
  simp only [if_true]
  by_cases hs : a0.size ≤ 2000
  · have hd : decide ((a0.size : Int) > 2000) = false := by simp; omega
    rw [hd]
    cases e : HLex.lex a0.data.toList with
    | ok ts =>
      have st := lex_stands e
      have hl : ts.length ≤ 2000 := by have := toks_len _ _ _ st; simp at this; omega
      refine Ev.step (fun k => ?_) (LexStandsP.l0_ev a0 hs ts hl ts 0 0 (by simp) (by omega) st)
      rw [gossamerlaw01_LexStands.j0]
      rw [if_neg (by simp), all_ok (by omega) e]
      simp
    | error x =>
      obtain ⟨p, er⟩ := x
      obtain ⟨c1, c2, c3, ts, c4⟩ := HLex.lexs_cut _ _ _ _ e
      have hp : p < a0.size := by simpa using c2
      have e2 : HLex.lex (a0.extract 0 p).data.toList = .ok ts := by
        rw [ByteArray.data_extract, Array.toList_extract, List.extract_eq_take_drop]; exact c4
      have hz : (a0.extract 0 p).size ≤ 1000000 := by simp; omega
      refine Ev.step (f := fun _ => some true) (fun k => ?_) (Ev.now _)
      rw [gossamerlaw01_LexStands.j0]
      rw [if_neg (by simp), all_err (by omega) e]
      have hm : mx 0 (mn (p : Int) (a0.size : Int)) = (p : Int) := by
        have : mn (p : Int) (a0.size : Int) = (p : Int) := by unfold mn; rw [if_neg (by omega)]
        rw [this]; unfold mx; split <;> omega
      simp only [Option.bind_some, hm, Int.toNat_natCast, all_ok hz e2]
      rw [if_neg (by omega), if_pos (by omega), if_pos (by omega), if_pos (by omega), if_pos (by omega)]
      rcases c3 with rfl | rfl <;> simp
  · have hd : decide ((a0.size : Int) > 2000) = true := by simp; omega
    rw [hd]
    refine Ev.step (fun k => ?_) (Ev.bind (f := fun _ t => some t) fixed_ev (Ev.now true))
    rw [gossamerlaw01_LexStands.j0]
    rw [if_pos rfl]
end Go.Proofs.YthgmpflfgicmbaaDoor.Pure
