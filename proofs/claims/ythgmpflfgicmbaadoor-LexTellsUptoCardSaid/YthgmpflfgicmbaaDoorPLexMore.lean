-- Written for this claim.
import Derived.Test.YthgmpflfgicmbaaDoorQx8
import Derived.Test.YthgmpflfgicmbaaDoorPLexLib
namespace Go.Proofs.YthgmpflfgicmbaaDoor.Pure
open Go Go.RowKit Go.Proofs.YthgmpflfgicmbaaDoor.Q Go.Proofs.YthgmpflfgicmbaaDoorW.PrintWords Go.Proofs.YthgmpflfgicmbaaDoorW.PrintLast Go.Proofs.YthgmpflfgicmbaaDoorW.PrintMore
open HLexC (toS)
open HLex (Tok Stands)
namespace More
theorem all_ok {a : ByteArray} {ts : List Tok} (h : a.size ≤ 1000000) (e : HLex.lex a.data.toList = .ok ts) : lex_All.f a = some (ts.map toS, 0, 0) := by
  unfold lex_All.f; rw [if_pos (Nat.le_trans h (by decide)), e]
theorem all_err {a : ByteArray} {p er : Nat} (h : a.size ≤ 1000000) (e : HLex.lex a.data.toList = .error (p, er)) : lex_All.f a = some ([], (p : Int), (er : Int)) := by
  unfold lex_All.f; rw [if_pos (Nat.le_trans h (by decide)), e]
theorem rd_tok (ts : List Tok) (i : Nat) (h : i < ts.length) : rd_T33 (ts.map toS) i = toS ts[i] := by
  unfold rd_T33; simp [List.getD, h]
theorem toks_len : ∀ (s : List UInt8) (us : List Tok) (x : Nat), Stands s x us → x + us.length ≤ s.length
  | s, [], x, st => by simpa using st.1
  | s, t :: us, x, st => by
    obtain ⟨s1, s2, s3, s4, s5, s6⟩ := st
    have := toks_len s us _ s6
    have : 0 < t.text.length := List.length_pos_iff.2 s3
    simp; omega
theorem toks_pos : ∀ (s : List UInt8) (us : List Tok) (x : Nat), Stands s x us → ∀ t ∈ us, t.pos + t.text.length ≤ s.length
  | s, [], x, st => by simp
  | s, t :: us, x, st => by
    obtain ⟨s1, s2, s3, s4, s5, s6⟩ := st
    intro u hu
    rcases List.mem_cons.1 hu with rfl | hu
    · exact s2
    · exact toks_pos s us _ s6 u hu
theorem lex_stands {s : List UInt8} {ts : List Tok} (h : HLex.lex s = .ok ts) : Stands s 0 ts := HLex.stands s s 0 ts (by simp) (by omega) h
theorem size_len (a : ByteArray) : a.data.toList.length = a.size := by simp
theorem err_is {s : List UInt8} {p e : Nat} (h : HLex.lex s = .error (p, e)) : p < s.length ∧ (e = 10 ∨ e = 11) := by
  obtain ⟨_, c2, c3, _⟩ := HLex.lexs_cut _ _ _ _ h
  exact ⟨by omega, c3⟩
/-- A token further on. -/
def later (d : Nat) (t : Tok) : Tok := { t with pos := t.pos + d }
theorem shift_ok (d : Nat) (ts : List Tok) : HLex.shift d (.ok ts) = .ok (ts.map (later d)) := rfl
end More
end Go.Proofs.YthgmpflfgicmbaaDoor.Pure
