-- Written for this claim.
import Derived.Test.YthgmpflfgicmbaaDoorQx8
import Derived.Test.YthgmpflfgicmbaaDoorHLexLaw
namespace Go.Proofs.YthgmpflfgicmbaaDoor.Pure
open Go Go.RowKit Go.Proofs.YthgmpflfgicmbaaDoor.Q Go.Proofs.YthgmpflfgicmbaaDoorW.PrintWords Go.Proofs.YthgmpflfgicmbaaDoorW.PrintLast Go.Proofs.YthgmpflfgicmbaaDoorW.PrintMore
open HLexC (toS)

theorem wrap_small {n : Int} (h0 : -9223372036854775808 ≤ n) (h1 : n < 9223372036854775808) : wrap64 n = n := by
  unfold wrap64; omega

theorem same_from (l : List S33) (hl : l.length < 1000000000) : ∀ (d i k : Nat), i + d = l.length → d < k → gossamerref01_Same.l0 k l l (i : Int) = some true
  | d, i, 0, _, h => by omega
  | 0, i, k + 1, h, _ => by
    unfold gossamerref01_Same.l0
    rw [if_neg (by omega)]
  | d + 1, i, k + 1, h, hk => by
    unfold gossamerref01_Same.l0
    rw [if_pos (by omega), if_pos (by omega), if_pos (by omega), if_neg (by simp), wrap_small (by omega) (by omega)]
    exact same_from l hl d (i + 1) k (by omega) (by omega)
theorem same_self (l : List S33) (hl : l.length < 1000000000) : Ev (fun k => gossamerref01_Same.f k l l) true := by
  refine Ev.of (fun k => gossamerref01_Same.mono _ _ k) (k := l.length + 1) ?_
  unfold gossamerref01_Same.f
  rw [if_pos rfl]
  exact same_from l hl l.length 0 _ (by omega) (by omega)

theorem word_is (a : ByteArray) : lex_Word.f 8 a = some (HLex.isWord a.data.toList) := by
  unfold lex_Word.f slices_Contains_string_string.f slices_Index_string_string.f
  simp only [slices_Index_string_string.l0, Lib.toList_data, rdOf]
  have w1 : wrap64 1 = 1 := by simp [wrap64]
  have w2 : wrap64 2 = 2 := by simp [wrap64]
  have w3 : wrap64 3 = 3 := by simp [wrap64]
  have w4 : wrap64 4 = 4 := by simp [wrap64]
  have w5 : wrap64 5 = 5 := by simp [wrap64]
  by_cases h1 : a.data.toList = [108, 101, 116]
  · simp [h1, HLex.isWord, HLex.words]
  by_cases h2 : a.data.toList = [108, 101, 116, 114, 101, 99]
  · simp [h2, w1, HLex.isWord, HLex.words]
  by_cases h3 : a.data.toList = [105, 110]
  · simp [h3, w1, w2, HLex.isWord, HLex.words]
  by_cases h4 : a.data.toList = [99, 97, 115, 101]
  · simp [h4, w1, w2, w3, HLex.isWord, HLex.words]
  by_cases h5 : a.data.toList = [111, 102]
  · simp [h5, w1, w2, w3, w4, HLex.isWord, HLex.words]
  simp [h1, h2, h3, h4, h5, w1, w2, w3, w4, w5, HLex.isWord, HLex.words]
theorem word_ev (a : ByteArray) : Ev (fun k => lex_Word.f k a) (HLex.isWord a.data.toList) := Ev.of (fun k => lex_Word.mono _ k) (word_is a)

theorem all1 : lex_All.f (⟨#[92, 120, 46, 120]⟩ : ByteArray) = some ([(⟨5, (⟨#[92]⟩ : ByteArray), 0, 0⟩ : S33), (⟨1, (⟨#[120]⟩ : ByteArray), 0, 1⟩ : S33), (⟨5, (⟨#[46]⟩ : ByteArray), 0, 2⟩ : S33), (⟨1, (⟨#[120]⟩ : ByteArray), 0, 3⟩ : S33)], 0, 0) := by kernel_rfl
theorem all2 : lex_All.f (⟨#[108, 101, 116, 32, 48, 49]⟩ : ByteArray) = some ([], 4, 11) := by kernel_rfl
theorem all3 : lex_All.f (⟨#[32, 32, 63]⟩ : ByteArray) = some ([], 2, 10) := by kernel_rfl
theorem all4 : lex_All.f (⟨#[120, 32, 49, 97]⟩ : ByteArray) = some ([], 2, 10) := by kernel_rfl
theorem all5 : lex_All.f (⟨#[108, 101, 116, 114, 101, 99, 32, 65, 98, 45, 62, 52, 48]⟩ : ByteArray) = some ([(⟨4, (⟨#[108, 101, 116, 114, 101, 99]⟩ : ByteArray), 0, 0⟩ : S33), (⟨2, (⟨#[65, 98]⟩ : ByteArray), 0, 7⟩ : S33), (⟨5, (⟨#[45, 62]⟩ : ByteArray), 0, 9⟩ : S33), (⟨3, (⟨#[52, 48]⟩ : ByteArray), 40, 11⟩ : S33)], 0, 0) := by kernel_rfl
theorem text1 : lex_Text.f ([(⟨5, (⟨#[92]⟩ : ByteArray), 0, 0⟩ : S33), (⟨1, (⟨#[120]⟩ : ByteArray), 0, 1⟩ : S33), (⟨5, (⟨#[46]⟩ : ByteArray), 0, 2⟩ : S33), (⟨1, (⟨#[120]⟩ : ByteArray), 0, 3⟩ : S33)] : List S33) = some ⟨#[92, 32, 120, 32, 46, 32, 120]⟩ := by kernel_rfl
theorem same1 : gossamerref01_Same.f 8 ([(⟨5, (⟨#[92]⟩ : ByteArray), 0, 0⟩ : S33), (⟨1, (⟨#[120]⟩ : ByteArray), 0, 1⟩ : S33), (⟨5, (⟨#[46]⟩ : ByteArray), 0, 2⟩ : S33), (⟨1, (⟨#[120]⟩ : ByteArray), 0, 3⟩ : S33)] : List S33) ([(⟨5, (⟨#[92]⟩ : ByteArray), 0, 0⟩ : S33), (⟨1, (⟨#[120]⟩ : ByteArray), 0, 1⟩ : S33), (⟨5, (⟨#[46]⟩ : ByteArray), 0, 2⟩ : S33), (⟨1, (⟨#[120]⟩ : ByteArray), 0, 3⟩ : S33)] : List S33) = some true := by
  unfold gossamerref01_Same.f
  rw [if_pos rfl]
  exact same_from _ (by decide) 4 0 8 (by decide) (by decide)
theorem fixed_is : gossamerlaw01_fixed.f 8 = some true := by
  unfold gossamerlaw01_fixed.f
  rw [all1, all2, all3, all4, all5]
  simp only [Option.bind_some, same1, text1, word_is, Lib.toList_data]
  simp [rd_T33, HLex.isWord, HLex.words]
theorem fixed_ev : Ev gossamerlaw01_fixed.f true := Ev.of (fun k => gossamerlaw01_fixed.mono k) fixed_is
end Go.Proofs.YthgmpflfgicmbaaDoor.Pure
