-- Written for this claim: several texts in one.
import Derived.Test.YthdkjfhpbigdpaaDoorProg
import Derived.Below
import Derived.Deep.Draws
import Derived.Deep.AppendLies
import Derived.Maps.AppendAt
import Derived.OwnWalk
import Derived.Laws.BytesArg
import Derived.Laws.MakeOwn
import Derived.Laws.OwnMore
import Derived.Deep.OwnRows
import Derived.Tactics
import Derived.Lib.ConvBytes
import Derived.Laws.Slices
import Derived.WalkKit
import Derived.KernelRfl
import Derived.RowKit3
import Derived.Deep.LoopGhost
import Derived.Deep.QuietTactic
import Derived.BigQuiet
import Derived.WideLaws
import Derived.Deep.DeepCutAuto
import Derived.Deep.CutBlock
import Derived.Deep.RegionHeld3
import Derived.Laws.Rows
import Derived.Lib.AppendStr
import Derived.ArgAppend
import Derived.Laws.IdiomCopy
import Derived.OrdersHeld
import Derived.Laws.BitsLemmas
import Derived.RowKit
import Derived.Test.YthdkjfhpbigdpaaDoorYTreeAltsWords
import Derived.Test.YthdkjfhpbigdpaaDoorYTreeAltsLast
import Derived.Test.YthdkjfhpbigdpaaDoorYTreeAltsTab
import Derived.Test.YthdkjfhpbigdpaaDoorYTreeAltsQPut
import Derived.Test.YthdkjfhpbigdpaaDoorYTreeAltsApart
import Derived.Test.YthdkjfhpbigdpaaDoorYTreeAltsArr
import Derived.Test.YthdkjfhpbigdpaaDoorYTreeAltsZeros
import Derived.Test.YthdkjfhpbigdpaaDoorYTreeAltsFoot
import Derived.Test.YthdkjfhpbigdpaaDoorYTreeAltsKept
import Derived.Test.YthdkjfhpbigdpaaDoorYTreeAltsShare
import Derived.Test.YthdkjfhpbigdpaaDoorYTreeAltsN
import Derived.Test.YthdkjfhpbigdpaaDoorYTreeAltsRepsOne
import Derived.Test.YthdkjfhpbigdpaaDoorYTreeAltsNEv
import Derived.Test.YthdkjfhpbigdpaaDoorYTreeAltsMore
import Derived.Shelf.GgClosure.StringsIndexFunc
import Derived.Laws.RangeString
import Derived.Laws.RangeAny
import Derived.Lib.Atoi
import Derived.Lib.SlTrimSet
import Derived.Shelf.Strings.Trim
import Derived.Shelf.Small.Utf8
import Derived.Shelf.Small.Strs
import Derived.Shelf.Strconv.Atoi
import Derived.Shelf.Strconv.Itoa0
import Derived.Shelf.Strconv.Itoa1
import Derived.Shelf.LaysM
import Derived.Shelf.Strconv.Itoa2
import Derived.Shelf.Strconv.Itoa3
import Derived.Shelf.Strings.Search1
import Derived.Ground.GgwProg
import Derived.Shelf.GgClosure.StringsIndexFuncTop
import Derived.Shelf.Strings.Fields
import Derived.Shelf.Unicode.Latin
import Derived.Shelf.Strings.Runes
import Derived.Shelf.Strings.AsciiSet
import Derived.Shelf.Unicode.DecodeSlow
import Derived.Shelf.Unicode.Is16White
import Derived.Shelf.Unicode.IsSpaceAny
import Derived.Shelf.Unicode.Is16WhiteD
import Derived.Shelf.Unicode.IsSpaceAnyD
import Derived.Shelf.Strings.FieldsAny
import Derived.Shelf.Strings.FieldsFuncAny
import Derived.Shelf.Unicode.Is16Any
import Derived.Shelf.Unicode.Is32Any
import Derived.Shelf.Unicode.ExclAny
import Derived.Shelf.Slices.Turned
import Derived.Shelf.Strings.SlTrimAscii
import Derived.Tactics2
import Derived.Outline
import Derived.WalkSmall
import Derived.Defers
import Derived.Recover
import Derived.Laws.Pointers
import Derived.RegionTactic
import Derived.ChangeAlike
import Derived.Laws.NewBlocks
import Derived.Deep.RegionWith
set_option linter.unusedSimpArgs false
set_option linter.unusedVariables false
namespace Go.Proofs.YthdkjfhpbigdpaaDoor.Q
open Go.RowKit Go.Proofs.YthdkjfhpbigdpaaDoorW.PrintWords Go.Proofs.YthdkjfhpbigdpaaDoorW.PrintLast Go.Proofs.YthdkjfhpbigdpaaDoorW.PrintMore
attribute [local go_sem] max2_int min2_int max_two min_two max_three min_three max_four min_four
set_option linter.unusedVariables false
set_option linter.unusedSimpArgs false



def errW : Option Int → Value
 | none => .nilIface
 | some c => .iface 0 (.int .i64 c)
theorem errW_none : errW none = .nilIface := rfl
theorem errW_some (c : Int) : errW (some c) = .iface 0 (.int .i64 c) := rfl

theorem info24 : (Tryd.prog.info? 24).map (fun i => (i.zero, i.size, i.bytes)) = some (some (.agg #[(.int .i64 0), (.string ⟨#[]⟩), (.int .i64 0), (.int .i64 0), (.slice none 0 0)]), 5, 64) := by kernel_rfl
structure S24 where
 f0 : Int
 f1 : ByteArray
 f2 : Int
 f3 : Int
 f4 : (List S24)
def z24 : S24 := ⟨(0 : Int), (⟨#[]⟩ : ByteArray), (0 : Int), (0 : Int), ([] : List S24)⟩
def F24 (d : Kd S24) : Kd S24 := Kd.iso (Kd.pair (Kd.int .i64) (Kd.pair Kd.string (Kd.pair (Kd.int .i64) (Kd.pair (Kd.int .i64) (Kd.slice 24 d))))) (fun x : S24 => (x.f0, x.f1, x.f2, x.f3, x.f4))
theorem mono24 : Kd.Mono F24 := Kd.mono_iso _ (Kd.mono_pair (Kd.mono_const _) (Kd.mono_pair (Kd.mono_const _) (Kd.mono_pair (Kd.mono_const _) (Kd.mono_pair (Kd.mono_const _) (Kd.mono_slice 24 Kd.mono_id)))))
theorem sub24 : Kd.Sub F24 [24] := Kd.sub_iso _ (Kd.sub_pair (Kd.sub_const _ (by decide)) (Kd.sub_pair (Kd.sub_const _ (by decide)) (Kd.sub_pair (Kd.sub_const _ (by decide)) (Kd.sub_pair (Kd.sub_const _ (by decide)) (Kd.sub_slice 24 (by decide) Kd.sub_id)))))
theorem sz24 : ∀ n, (Kd.upto F24 5 [24] n).sz = 5 := Kd.upto_sz (fun _ => rfl)
def k24 : Kd S24 := Kd.fix F24 5 [24] sz24 (Kd.upto_E sub24)
theorem k24_open {w : World} {x : S24} {cs : List Value} (h : k24.K w x cs) : ∃ A4 c4, cs = [.int .i64 x.f0, .string x.f1, .int .i64 x.f2, .int .i64 x.f3, .slice A4 x.f4.length c4] ∧ x.f4.length ≤ c4 ∧ k24.C w A4 x.f4.length x.f4 := by
 obtain ⟨n, h⟩ := h
 cases n with
 | zero => exact h.elim
 | succ n =>
  obtain ⟨_, _, rfl, rfl, ⟨_, _, rfl, rfl, ⟨_, _, rfl, rfl, ⟨_, _, rfl, rfl, ⟨A4, c4, rfl, l4, g4⟩⟩⟩⟩⟩ := h
  exact ⟨A4, c4, rfl, l4, Kd.fix_C g4⟩
theorem k24_mk (w : World) (x : S24) {A4 : Option Addr} {c4 : Nat} (l4 : x.f4.length ≤ c4) (g4 : k24.C w A4 x.f4.length x.f4) : k24.K w x [.int .i64 x.f0, .string x.f1, .int .i64 x.f2, .int .i64 x.f3, .slice A4 x.f4.length c4] := by
 obtain ⟨n4, q4⟩ := Kd.fix_C_back mono24 g4
 have r4 := Kd.upto_C_le mono24 sz24 (show n4 ≤ n4 by omega) q4
 exact ⟨n4 + 1, ⟨[.int .i64 x.f0], [.string x.f1, .int .i64 x.f2, .int .i64 x.f3, .slice A4 x.f4.length c4], rfl, rfl, ⟨[.string x.f1], [.int .i64 x.f2, .int .i64 x.f3, .slice A4 x.f4.length c4], rfl, rfl, ⟨[.int .i64 x.f2], [.int .i64 x.f3, .slice A4 x.f4.length c4], rfl, rfl, ⟨[.int .i64 x.f3], [.slice A4 x.f4.length c4], rfl, rfl, ⟨A4, c4, rfl, l4, r4⟩⟩⟩⟩⟩⟩
theorem k24_mkM (w : World) (base : Nat) (ok : Nat → Prop) (x : S24) {v4 : Value} (g4 : k24.R 24 w base ok v4 x.f4) : k24.M w base ok x [.int .i64 x.f0, .string x.f1, .int .i64 x.f2, .int .i64 x.f3, v4] := by
 obtain ⟨n4, q4⟩ := Kd.fix_R_back mono24 g4
 have r4 := Kd.upto_R_le mono24 sz24 (show n4 ≤ n4 by omega) q4
 exact ⟨n4 + 1, ⟨[.int .i64 x.f0], [.string x.f1, .int .i64 x.f2, .int .i64 x.f3, v4], rfl, rfl, ⟨[.string x.f1], [.int .i64 x.f2, .int .i64 x.f3, v4], rfl, rfl, ⟨[.int .i64 x.f2], [.int .i64 x.f3, v4], rfl, rfl, ⟨[.int .i64 x.f3], [v4], rfl, rfl, ⟨v4, rfl, r4⟩⟩⟩⟩⟩⟩
theorem k24_mkF (W : World) (ok : Nat → Prop) (x : S24) {A4 : Option Addr} {c4 : Nat} (l4 : x.f4.length ≤ c4) (g4 : Kd.F k24 W ok A4 x.f4.length x.f4) : Kd.FK k24 W ok x [.int .i64 x.f0, .string x.f1, .int .i64 x.f2, .int .i64 x.f3, .slice A4 x.f4.length c4] := fun W2 hW => k24_mk W2 x l4 (g4 W2 hW)
def rd_T24 (xs : List S24) (i : Int) : S24 := xs.getD i.toNat z24
theorem at_T24 {w : World} {A : Option Addr} {n : Nat} {xs : List S24} (h : Kd.C k24 w A n xs) (i : Int) (h0 : 0 ≤ i) (h1 : i < n) : ∃ ad A4 c4, A = some ad ∧ w.cell? (ad.add (i.toNat * 5)) = some (.int .i64 (rd_T24 xs i).f0) ∧ w.cell? ⟨(ad.add (i.toNat * 5)).block, (ad.add (i.toNat * 5)).off + 1, none⟩ = some (.string (rd_T24 xs i).f1) ∧ w.cell? ⟨(ad.add (i.toNat * 5)).block, (ad.add (i.toNat * 5)).off + 2, none⟩ = some (.int .i64 (rd_T24 xs i).f2) ∧ w.cell? ⟨(ad.add (i.toNat * 5)).block, (ad.add (i.toNat * 5)).off + 3, none⟩ = some (.int .i64 (rd_T24 xs i).f3) ∧ w.cell? ⟨(ad.add (i.toNat * 5)).block, (ad.add (i.toNat * 5)).off + 4, none⟩ = some (.slice A4 (rd_T24 xs i).f4.length c4) ∧ (rd_T24 xs i).f4.length ≤ c4 ∧ k24.C w A4 (rd_T24 xs i).f4.length (rd_T24 xs i).f4 := by
 obtain ⟨ad, c, e, _, hK, hc0⟩ := Kd.C_get h z24 i h0 h1
 have hc : ∀ j u, c[j]? = some u → w.cell? (ad.add (i.toNat * 5 + j)) = some u := hc0
 obtain ⟨A4, c4, rfl, l4, g4⟩ := k24_open hK
 exact ⟨ad, A4, c4, e, hc 0 _ rfl, by rw [← add_field _ _ 1 (by omega)]; exact hc 1 _ rfl, by rw [← add_field _ _ 2 (by omega)]; exact hc 2 _ rfl, by rw [← add_field _ _ 3 (by omega)]; exact hc 3 _ rfl, by rw [← add_field _ _ 4 (by omega)]; exact hc 4 _ rfl, l4, g4⟩

structure S33 where
 f0 : Int
 f1 : ByteArray
 f2 : Int
 f3 : Int
def z33 : S33 := ⟨(0 : Int), (⟨#[]⟩ : ByteArray), (0 : Int), (0 : Int)⟩
def k33 : Kd S33 := Kd.iso (Kd.pair (Kd.int .i64) (Kd.pair Kd.string (Kd.pair (Kd.int .i64) (Kd.int .i64)))) (fun x : S33 => (x.f0, x.f1, x.f2, x.f3))
theorem k33_open {w : World} {x : S33} {cs : List Value} (h : k33.K w x cs) : cs = [.int .i64 x.f0, .string x.f1, .int .i64 x.f2, .int .i64 x.f3] := by
 obtain ⟨_, _, rfl, rfl, ⟨_, _, rfl, rfl, ⟨_, _, rfl, rfl, rfl⟩⟩⟩ := h
 exact rfl
theorem k33_mkM (w : World) (base : Nat) (ok : Nat → Prop) (x : S33)  : k33.M w base ok x [.int .i64 x.f0, .string x.f1, .int .i64 x.f2, .int .i64 x.f3] := ⟨[.int .i64 x.f0], [.string x.f1, .int .i64 x.f2, .int .i64 x.f3], rfl, rfl, ⟨[.string x.f1], [.int .i64 x.f2, .int .i64 x.f3], rfl, rfl, ⟨[.int .i64 x.f2], [.int .i64 x.f3], rfl, rfl, rfl⟩⟩⟩
def rd_T33 (xs : List S33) (i : Int) : S33 := xs.getD i.toNat z33
theorem at_T33 {w : World} {A : Option Addr} {n : Nat} {xs : List S33} (h : Kd.C k33 w A n xs) (i : Int) (h0 : 0 ≤ i) (h1 : i < n) : ∃ ad , A = some ad ∧ w.cell? (ad.add (i.toNat * 4)) = some (.int .i64 (rd_T33 xs i).f0) ∧ w.cell? ⟨(ad.add (i.toNat * 4)).block, (ad.add (i.toNat * 4)).off + 1, none⟩ = some (.string (rd_T33 xs i).f1) ∧ w.cell? ⟨(ad.add (i.toNat * 4)).block, (ad.add (i.toNat * 4)).off + 2, none⟩ = some (.int .i64 (rd_T33 xs i).f2) ∧ w.cell? ⟨(ad.add (i.toNat * 4)).block, (ad.add (i.toNat * 4)).off + 3, none⟩ = some (.int .i64 (rd_T33 xs i).f3) := by
 obtain ⟨ad, c, e, _, hK, hc0⟩ := Kd.C_get h z33 i h0 h1
 have hc : ∀ j u, c[j]? = some u → w.cell? (ad.add (i.toNat * 4 + j)) = some u := hc0
 obtain rfl := k33_open hK
 exact ⟨ad, e, hc 0 _ rfl, by rw [← add_field _ _ 1 (by omega)]; exact hc 1 _ rfl, by rw [← add_field _ _ 2 (by omega)]; exact hc 2 _ rfl, by rw [← add_field _ _ 3 (by omega)]; exact hc 3 _ rfl⟩

end Go.Proofs.YthdkjfhpbigdpaaDoor.Q

namespace Go.Proofs.YthdkjfhpbigdpaaDoor.Q
open Go.RowKit Go.Proofs.YthdkjfhpbigdpaaDoorW.PrintWords Go.Proofs.YthdkjfhpbigdpaaDoorW.PrintLast Go.Proofs.YthdkjfhpbigdpaaDoorW.PrintMore
attribute [local go_sem] max2_int min2_int max_two min_two max_three min_three max_four min_four
set_option linter.unusedVariables false
set_option linter.unusedSimpArgs false

mutual
def gossamerref02_few.j0 : Nat → Int → Int → Bool → Int → ByteArray → Int → Int → List (S24) → Option (Int)
 | 0, _, _, _, _, _, _, _, _ => none
 | k + 1, x1, x2, x13, x131000, x131001, x131002, x131003, x131004 => if x13 = true then (some (-1)) else (gossamerref02_few.l0 k (wrap64 (x1 - 1)) x2 0 x131000 x131001 x131002 x131003 x131004)
def gossamerref02_few.l0 : Nat → Int → Int → Int → Int → ByteArray → Int → Int → List (S24) → Option (Int)
 | 0, _, _, _, _, _, _, _, _ => none
 | k + 1, x1, x2, x7, x131000, x131001, x131002, x131003, x131004 => if x7 < (x131004.length : Int) then (if 0 ≤ x7 then ((gossamerref02_few.f k ((rd_T24 x131004 x7).f0) ((rd_T24 x131004 x7).f1) ((rd_T24 x131004 x7).f2) ((rd_T24 x131004 x7).f3) ((rd_T24 x131004 x7).f4) x1 (wrap64 (x2 - 1))).bind fun t132 => (if t132 < 0 then (some (-1)) else (gossamerref02_few.l0 k t132 x2 (wrap64 (x7 + 1)) x131000 x131001 x131002 x131003 x131004))) else (none)) else (some x1)
def gossamerref02_few.f : Nat → Int → ByteArray → Int → Int → List (S24) → Int → Int → Option (Int)
 | 0, _, _, _, _, _, _, _ => none
 | k + 1, a0_0, a0_1, a0_2, a0_3, l0_4, a1, a2 => if a1 < 1 then (gossamerref02_few.j0 k a1 a2 true a0_0 a0_1 a0_2 a0_3 l0_4) else (gossamerref02_few.j0 k a1 a2 (decide (a2 < 1)) a0_0 a0_1 a0_2 a0_3 l0_4)
end
theorem gossamerref02_few.mono_l : ∀ k, (∀ y0 y1 y2 y3 y4 y5 y6, LeO (gossamerref02_few.f k y0 y1 y2 y3 y4 y5 y6) (gossamerref02_few.f (k + 1) y0 y1 y2 y3 y4 y5 y6)) ∧ (∀ y0 y1 y2 y3 y4 y5 y6 y7, LeO (gossamerref02_few.j0 k y0 y1 y2 y3 y4 y5 y6 y7) (gossamerref02_few.j0 (k + 1) y0 y1 y2 y3 y4 y5 y6 y7)) ∧ (∀ y0 y1 y2 y3 y4 y5 y6 y7, LeO (gossamerref02_few.l0 k y0 y1 y2 y3 y4 y5 y6 y7) (gossamerref02_few.l0 (k + 1) y0 y1 y2 y3 y4 y5 y6 y7))
 | 0 => ⟨fun _ _ _ _ _ _ _ r h => by simp [gossamerref02_few.f] at h, fun _ _ _ _ _ _ _ _ r h => by simp [gossamerref02_few.j0] at h, fun _ _ _ _ _ _ _ _ r h => by simp [gossamerref02_few.l0] at h⟩
 | k + 1 => by
  obtain ⟨ih0, ih1, ih2⟩ := gossamerref02_few.mono_l k
  refine ⟨?_, ?_, ?_⟩
  ·intro y0 y1 y2 y3 y4 y5 y6
   unfold gossamerref02_few.f
   repeat' first
  |(with_reducible exact ih0 _ _ _ _ _ _ _)
  |(with_reducible exact ih1 _ _ _ _ _ _ _ _)
  |(with_reducible exact ih2 _ _ _ _ _ _ _ _)
  |(with_reducible exact LeO.refl _)
  |(with_reducible exact LeO.none _)
  |(with_reducible refine LeO.ite ?_ ?_)
  |(with_reducible refine LeO.bind ?_ (fun _ => ?_))
  |exact ih0 _ _ _ _ _ _ _
  |exact ih1 _ _ _ _ _ _ _ _
  |exact ih2 _ _ _ _ _ _ _ _
  |exact LeO.none _
  |refine LeO.ite ?_ ?_
  |refine LeO.bind ?_ (fun _ => ?_)
  ·intro y0 y1 y2 y3 y4 y5 y6 y7
   unfold gossamerref02_few.j0
   repeat' first
  |(with_reducible exact ih0 _ _ _ _ _ _ _)
  |(with_reducible exact ih1 _ _ _ _ _ _ _ _)
  |(with_reducible exact ih2 _ _ _ _ _ _ _ _)
  |(with_reducible exact LeO.refl _)
  |(with_reducible exact LeO.none _)
  |(with_reducible refine LeO.ite ?_ ?_)
  |(with_reducible refine LeO.bind ?_ (fun _ => ?_))
  |exact ih0 _ _ _ _ _ _ _
  |exact ih1 _ _ _ _ _ _ _ _
  |exact ih2 _ _ _ _ _ _ _ _
  |exact LeO.none _
  |refine LeO.ite ?_ ?_
  |refine LeO.bind ?_ (fun _ => ?_)
  ·intro y0 y1 y2 y3 y4 y5 y6 y7
   unfold gossamerref02_few.l0
   repeat' first
  |(with_reducible exact ih0 _ _ _ _ _ _ _)
  |(with_reducible exact ih1 _ _ _ _ _ _ _ _)
  |(with_reducible exact ih2 _ _ _ _ _ _ _ _)
  |(with_reducible exact LeO.refl _)
  |(with_reducible exact LeO.none _)
  |(with_reducible refine LeO.ite ?_ ?_)
  |(with_reducible refine LeO.bind ?_ (fun _ => ?_))
  |exact ih0 _ _ _ _ _ _ _
  |exact ih1 _ _ _ _ _ _ _ _
  |exact ih2 _ _ _ _ _ _ _ _
  |exact LeO.none _
  |refine LeO.ite ?_ ?_
  |refine LeO.bind ?_ (fun _ => ?_)
theorem gossamerref02_few.mono : ∀ a0 a1 a2 a3 a4 a5 a6 k, LeO (gossamerref02_few.f k a0 a1 a2 a3 a4 a5 a6) (gossamerref02_few.f (k + 1) a0 a1 a2 a3 a4 a5 a6) := by
 intro a0 a1 a2 a3 a4 a5 a6 k
 obtain ⟨ih0, ih1, ih2⟩ := gossamerref02_few.mono_l k
 exact ih0 a0 a1 a2 a3 a4 a5 a6
set_option maxHeartbeats 8000000 in
set_option maxRecDepth 100000 in
theorem gossamerref02_few.calls (k : Nat) : ∀ (a0_0 : Int) (a0_1 : ByteArray) (a0_2 : Int) (a0_3 : Int) (A0_4 : Option Addr) (c0_4 : Nat) (l0_4 : List (S24)) (a1 : Int) (a2 : Int) (r : Int) (w : World) (hr0_4 : Kd.C k24 w A0_4 l0_4.length l0_4) (hc0_4 : l0_4.length ≤ c0_4) (h : gossamerref02_few.f k a0_0 a0_1 a0_2 a0_3 l0_4 a1 a2 = some r),
  Calls Tryd.prog 19 #[.agg #[.int .i64 a0_0, .string a0_1, .int .i64 a0_2, .int .i64 a0_3, .slice A0_4 l0_4.length c0_4], .int .i64 a1, .int .i64 a2] w fun e w' => e = .returned (.int .i64 r) ∧ Below w.heap.size w w' := by
 induction k using Nat.strongRecOn with
 | _ k ih =>
 intro a0_0 a0_1 a0_2 a0_3 A0_4 c0_4 l0_4 a1 a2 r w hr0_4 hc0_4 h
 cases k with
 | zero => exact absurd h (by simp [gossamerref02_few.f])
 | succ k =>
 simp only [gossamerref02_few.f] at h
 have hu24 := Tryd.underlying24
 have HR0_4 := Aside0.mk hr0_4
 have HC0_4 := Aside0.mk hc0_4
 clear hr0_4 hc0_4
 have HB := Aside0.mk (Below.refl w.heap.size w)
 have H : (if a1 < 1 then (gossamerref02_few.j0 k a1 a2 true a0_0 a0_1 a0_2 a0_3 l0_4) else (gossamerref02_few.j0 k a1 a2 (decide (a2 < 1)) a0_0 a0_1 a0_2 a0_3 l0_4)) = some r := h
 clear h
 have HC4 := Aside0.mk H
 clear H
 go_enter Tryd.func19, Tryd.ntmps19
 go_upto_region 1 with (first|((with_reducible refine gate_dst (N := 3) rfl ?_); refine box_event ?hg (N := 3) ?hd (cs := #[.int .i64 a0_0, .string a0_1, .int .i64 a0_2, .int .i64 a0_3, .slice A0_4 l0_4.length c0_4]) (t := 24) ?hr ?_; (case hd => rfl); (case hg => rfl); (case hr => first|(go_simp; done)|(go_simp; rfl)); intro gb130 hg w5 hbox hb; have n0_ := Aside0.mk (below_step (by repeat (first|(with_reducible first|exact HB.out|apply below_alloc|apply pw_below_drewN|apply below_drew1)|exact HB.out)) hb); have n1_ := Aside0.mk (hbox); have n2_ := Aside0.mk ((by rw [hg]; exact (below_size (by repeat (first|(with_reducible first|exact HB.out|apply below_alloc|apply pw_below_drewN|apply below_drew1)|exact HB.out))) : w.heap.size ≤ gb130)); have n3_ := Aside0.mk ((by rw [hg]; exact (below_size (by repeat (first|(with_reducible first|exact HB.out|apply below_alloc|apply pw_below_drewN|apply below_drew1)|exact HB.out))) : w.heap.size ≤ gb130)); clear HB; have HB := n0_; have BK130 := n1_; have GW130 := n2_; have GE130 := n3_; clear n0_ n1_ n2_ n3_; clear hb hbox hg))
 (try simp only [Act.put, List.setIfInBounds_toArray, List.set_cons_zero, List.set_cons_succ])
 go_cut [13] (fun v13 wc => ∃ (kq : Nat) (x13_3 : Bool), v13 = .bool x13_3 ∧ Aside0 (gossamerref02_few.j0 kq a1 a2 x13_3 a0_0 a0_1 a0_2 a0_3 l0_4 = some r) ∧ Aside0 (kq ≤ k) ∧ Aside0 (wc.heap[gb130]? = some (.cells #[.int .i64 a0_0, .string a0_1, .int .i64 a0_2, .int .i64 a0_3, (.slice A0_4 l0_4.length c0_4)] 24 (0, 0))) ∧ Aside0 (Below w.heap.size w wc))
 case first =>
  have H := HC4.out
  clear HC4
  by_cases c6 : a1 < 1
  ·rw [if_pos c6] at H
   have c6b0 : decide (a1 < 1) = true := decide_eq_true c6
   clear c6
   (first|rw [c6b0]|(simp only [i64_w, i32_w]; rw [c6b0]) | skip)
   have H' := Aside0.mk H
   clear H
   go_wp2
   go_meet
   case rel => exact ⟨_, (true), (by first|rfl|(simp; done)|(simp [*]; done)), H', ⟨by first | omega|exact Nat.le_refl _⟩, ⟨by (with_reducible repeat (first|refine blk_drewN ?_ _|refine blk_drew ?_|refine blk_alloc ?_ _)); exact BK130.out⟩, ⟨by repeat (first|(with_reducible first|exact HB.out|apply below_alloc|apply pw_below_drewN|apply below_drew1|refine below_set ?_ GE130.out)|exact HB.out)⟩⟩
  ·rw [if_neg c6] at H
   have c6b0 : decide (a1 < 1) = false := decide_eq_false c6
   clear c6
   (first|rw [c6b0]|(simp only [i64_w, i32_w]; rw [c6b0]) | skip)
   have H' := Aside0.mk H
   clear H
   go_wp2
   go_meet
   case rel => exact ⟨_, (decide (a2 < 1)), (by first|rfl|(simp; done)|(simp [*]; done)), H', ⟨by first | omega|exact Nat.le_refl _⟩, ⟨by (with_reducible repeat (first|refine blk_drewN ?_ _|refine blk_drew ?_|refine blk_alloc ?_ _)); exact BK130.out⟩, ⟨by repeat (first|(with_reducible first|exact HB.out|apply below_alloc|apply pw_below_drewN|apply below_drew1|refine below_set ?_ GE130.out)|exact HB.out)⟩⟩
 case rest =>
  clear HC4
  try clear c1
  try clear p2
  try clear c6
  try clear c6b0
  obtain ⟨kq, x13_3, rfl, HA, HJ3, BK130, HB⟩ := hcut
  cases kq with
  | zero => exact absurd HA.out (by simp [gossamerref02_few.j0])
  | succ kj3 =>
   have H := HA.out
   clear HA
   simp only [gossamerref02_few.j0] at H
   by_cases c7 : x13_3 = true
   ·subst c7
    have H1 : (some (-1)) = some r := by rw [if_pos rfl] at H; exact H
    clear H
    have H := H1
    clear H1
    obtain rfl := Option.some.inj H
    go_wp2
    go_ret
    exact ⟨by first|rfl|(simp [errW_none, errW_some] <;> rfl)|(simp [*, errW_none, errW_some] <;> rfl), by repeat (first|(with_reducible first|exact HB.out|apply below_alloc|apply pw_below_drewN|apply below_drew1|refine below_set ?_ GE130.out)|exact HB.out)⟩
   ·replace c7 := Bool.eq_false_iff.mpr c7
    subst c7
    have H1 : (gossamerref02_few.l0 kj3 (wrap64 (a1 - 1)) a2 0 a0_0 a0_1 a0_2 a0_3 l0_4) = some r := by rw [if_neg (show ¬ (false = true) by decide)] at H; exact H
    clear H
    have H := H1
    clear H1
    have H' := Aside0.mk H
    clear H
    go_wp2
    go_loopg [1, 7] kj3 (fun kq v1 v7 w' => ∃ (x1_2 : Int) (x7_2 : Int), v1 = .int .i64 x1_2 ∧ v7 = .int .i64 x7_2 ∧ Aside0 (gossamerref02_few.l0 kq x1_2 a2 x7_2 a0_0 a0_1 a0_2 a0_3 l0_4 = some r) ∧ Aside0 (kq ≤ kj3) ∧ Aside0 (w'.heap[gb130]? = some (.cells #[.int .i64 a0_0, .string a0_1, .int .i64 a0_2, .int .i64 a0_3, (.slice A0_4 l0_4.length c0_4)] 24 (0, 0))) ∧ Aside0 (Below w.heap.size w w'))
    case atStart => exact ⟨(wrap64 (a1 - 1)), (0), (by first|rfl|(simp; done)|(simp [*]; done)), (by first|rfl|(simp; done)|(simp [*]; done)), H', ⟨Nat.le_refl _⟩, ⟨by (with_reducible repeat (first|refine blk_drewN ?_ _|refine blk_drew ?_|refine blk_alloc ?_ _)); exact BK130.out⟩, ⟨by repeat (first|(with_reducible first|exact HB.out|apply below_alloc|apply pw_below_drewN|apply below_drew1|refine below_set ?_ GE130.out)|exact HB.out)⟩⟩
    case round =>
     clear H'
     try clear c1
     try clear p2
     try clear c6
     try clear c6b0
     try clear p6
     try clear c7
     try clear p2
     obtain ⟨x1_2, x7_2, rfl, rfl, HA, HK2, BK130, HB⟩ := hrel
     cases gk with
     | zero => exact absurd HA.out (by simp [gossamerref02_few.l0])
     | succ k2 =>
      have H := HA.out
      clear HA
      simp only [gossamerref02_few.l0] at H
      by_cases c8 : x7_2 < (l0_4.length : Int)
      ·rw [if_pos c8] at H
       have c8b0 : decide (x7_2 < (l0_4.length : Int)) = true := decide_eq_true c8
       clear c8
       by_cases c9 : 0 ≤ x7_2
       ·rw [if_pos c9] at H
        have c9b0 : decide (0 ≤ x7_2) = true := decide_eq_true c9
        clear c9
        replace H := Option.bind_eq_some_iff.mp H
        obtain ⟨t132, A100, H⟩ := H
        replace H : (if t132 < 0 then (some (-1)) else (gossamerref02_few.l0 k2 t132 a2 (wrap64 (x7_2 + 1)) a0_0 a0_1 a0_2 a0_3 l0_4)) = some r := H
        have A10 := Aside0.mk A100
        clear A100
        by_cases c11 : t132 < 0
        ·rw [if_pos c11] at H
         have c11b0 : decide (t132 < 0) = true := decide_eq_true c11
         clear c11
         obtain rfl := Option.some.inj H
         have hcz12_0 : wr.cell? ⟨gb130, 0, none⟩ = some (.int .i64 a0_0) := (blk_cell BK130.out 0).trans rfl
         have hcz12_1 : wr.cell? ⟨gb130, 1, none⟩ = some (.string a0_1) := (blk_cell BK130.out 1).trans rfl
         have hcz12_2 : wr.cell? ⟨gb130, 2, none⟩ = some (.int .i64 a0_2) := (blk_cell BK130.out 2).trans rfl
         have hcz12_3 : wr.cell? ⟨gb130, 3, none⟩ = some (.int .i64 a0_3) := (blk_cell BK130.out 3).trans rfl
         have hcz12_4 : wr.cell? ⟨gb130, 4, none⟩ = some (.slice A0_4 l0_4.length c0_4) := (blk_cell BK130.out 4).trans rfl
         have hfz12_0 := blk_frozen BK130.out 0
         have hfz12_1 := blk_frozen BK130.out 1
         have hfz12_2 := blk_frozen BK130.out 2
         have hfz12_3 := blk_frozen BK130.out 3
         have hfz12_4 := blk_frozen BK130.out 4
         have p131 : 0 ≤ (x7_2 : Int) := of_decide_eq_true (by first|(with_reducible assumption) | assumption)
         have q131 : x7_2 < (l0_4.length : Int) := of_decide_eq_true (by first|(with_reducible assumption) | assumption)
         obtain ⟨ad131, A131_4, c131_4, e131, hx131_0, hx131_1, hx131_2, hx131_3, hx131_4, hl131_4, hi131_4⟩ := at_T24 HR0_4.out x7_2 p131 q131
         cases e131
         replace hx131_0 := (HB.out.cell (World.block_lt_of_cell? w _ hx131_0)).trans hx131_0
         replace hx131_1 := (HB.out.cell (World.block_lt_of_cell? w _ hx131_1)).trans hx131_1
         replace hx131_2 := (HB.out.cell (World.block_lt_of_cell? w _ hx131_2)).trans hx131_2
         replace hx131_3 := (HB.out.cell (World.block_lt_of_cell? w _ hx131_3)).trans hx131_3
         replace hx131_4 := (HB.out.cell (World.block_lt_of_cell? w _ hx131_4)).trans hx131_4
         have HR131_4 := Aside0.mk hi131_4
         have HC131_4 := Aside0.mk hl131_4
         clear hi131_4 hl131_4
         replace p131 := eq_true p131
         replace q131 := eq_true q131
         go_wp2_with (first|((with_reducible refine gate_callee (f := 19) rfl ?_); refine goesL_ (some 31) rfl rfl Tryd.func19 (by kernel_rfl) rfl #[.agg #[.int .i64 ((rd_T24 l0_4 x7_2).f0), .string ((rd_T24 l0_4 x7_2).f1), .int .i64 ((rd_T24 l0_4 x7_2).f2), .int .i64 ((rd_T24 l0_4 x7_2).f3), .slice A131_4 ((rd_T24 l0_4 x7_2).f4).length c131_4], .int .i64 x1_2, .int .i64 (wrap64 (a2 - 1))] rfl (by (try simp only [List.map_toArray, List.map_cons, List.map_nil]); first|done|rfl|(simp only [List.length_drop, List.length_take]; rfl)) ?_; (with_reducible refine (ih k2 (by have := HJ3.out; have := HK2.out; omega) ((rd_T24 l0_4 x7_2).f0) ((rd_T24 l0_4 x7_2).f1) ((rd_T24 l0_4 x7_2).f2) ((rd_T24 l0_4 x7_2).f3) _ _ ((rd_T24 l0_4 x7_2).f4) x1_2 (wrap64 (a2 - 1)) t132 _ ?side1 ?side2 A10.out).mono ?_); (case side1 => repeat (first|exact (Kd.C_below HR131_4.out HB.out)|(with_reducible refine Kd.C_alloc ?_ _)|(with_reducible refine Kd.C_drewN ?_ _)|(with_reducible refine Kd.C_drew ?_))); (case side2 => exact HC131_4.out); rintro e w13 ⟨rfl, hb⟩; refine ⟨_, rfl, ?_⟩; have n0_ := Aside0.mk (blk_below (g := gb130) (o := .cells #[.int .i64 a0_0, .string a0_1, .int .i64 a0_2, .int .i64 a0_3, .slice (some ad131) l0_4.length c0_4] 24 (0, 0)) (by (with_reducible repeat (first|refine blk_drewN ?_ _|refine blk_drew ?_|refine blk_alloc ?_ _)); exact BK130.out) hb); have n1_ := Aside0.mk (below_step (by repeat (first|(with_reducible first|exact HB.out|apply below_alloc|apply pw_below_drewN|apply below_drew1|refine below_set ?_ GE130.out)|exact HB.out)) hb); clear BK130; clear HB; have BK130 := n0_; have HB := n1_; clear n0_ n1_; (try clear hb); (try clear hb2); (try clear hk); (try clear hi)))
         go_ret
         exact ⟨by first|rfl|(simp [errW_none, errW_some] <;> rfl)|(simp [*, errW_none, errW_some] <;> rfl), by repeat (first|(with_reducible first|exact HB.out|apply below_alloc|apply pw_below_drewN|apply below_drew1|refine below_set ?_ GE130.out)|exact HB.out)⟩
        ·rw [if_neg c11] at H
         have c11b0 : decide (t132 < 0) = false := decide_eq_false c11
         clear c11
         have H' := Aside0.mk H
         clear H
         have hcz14_0 : wr.cell? ⟨gb130, 0, none⟩ = some (.int .i64 a0_0) := (blk_cell BK130.out 0).trans rfl
         have hcz14_1 : wr.cell? ⟨gb130, 1, none⟩ = some (.string a0_1) := (blk_cell BK130.out 1).trans rfl
         have hcz14_2 : wr.cell? ⟨gb130, 2, none⟩ = some (.int .i64 a0_2) := (blk_cell BK130.out 2).trans rfl
         have hcz14_3 : wr.cell? ⟨gb130, 3, none⟩ = some (.int .i64 a0_3) := (blk_cell BK130.out 3).trans rfl
         have hcz14_4 : wr.cell? ⟨gb130, 4, none⟩ = some (.slice A0_4 l0_4.length c0_4) := (blk_cell BK130.out 4).trans rfl
         have hfz14_0 := blk_frozen BK130.out 0
         have hfz14_1 := blk_frozen BK130.out 1
         have hfz14_2 := blk_frozen BK130.out 2
         have hfz14_3 := blk_frozen BK130.out 3
         have hfz14_4 := blk_frozen BK130.out 4
         have p131 : 0 ≤ (x7_2 : Int) := of_decide_eq_true (by first|(with_reducible assumption) | assumption)
         have q131 : x7_2 < (l0_4.length : Int) := of_decide_eq_true (by first|(with_reducible assumption) | assumption)
         obtain ⟨ad131, A131_4, c131_4, e131, hx131_0, hx131_1, hx131_2, hx131_3, hx131_4, hl131_4, hi131_4⟩ := at_T24 HR0_4.out x7_2 p131 q131
         cases e131
         replace hx131_0 := (HB.out.cell (World.block_lt_of_cell? w _ hx131_0)).trans hx131_0
         replace hx131_1 := (HB.out.cell (World.block_lt_of_cell? w _ hx131_1)).trans hx131_1
         replace hx131_2 := (HB.out.cell (World.block_lt_of_cell? w _ hx131_2)).trans hx131_2
         replace hx131_3 := (HB.out.cell (World.block_lt_of_cell? w _ hx131_3)).trans hx131_3
         replace hx131_4 := (HB.out.cell (World.block_lt_of_cell? w _ hx131_4)).trans hx131_4
         have HR131_4 := Aside0.mk hi131_4
         have HC131_4 := Aside0.mk hl131_4
         clear hi131_4 hl131_4
         replace p131 := eq_true p131
         replace q131 := eq_true q131
         go_wp2_with (first|((with_reducible refine gate_callee (f := 19) rfl ?_); refine goesL_ (some 31) rfl rfl Tryd.func19 (by kernel_rfl) rfl #[.agg #[.int .i64 ((rd_T24 l0_4 x7_2).f0), .string ((rd_T24 l0_4 x7_2).f1), .int .i64 ((rd_T24 l0_4 x7_2).f2), .int .i64 ((rd_T24 l0_4 x7_2).f3), .slice A131_4 ((rd_T24 l0_4 x7_2).f4).length c131_4], .int .i64 x1_2, .int .i64 (wrap64 (a2 - 1))] rfl (by (try simp only [List.map_toArray, List.map_cons, List.map_nil]); first|done|rfl|(simp only [List.length_drop, List.length_take]; rfl)) ?_; (with_reducible refine (ih k2 (by have := HJ3.out; have := HK2.out; omega) ((rd_T24 l0_4 x7_2).f0) ((rd_T24 l0_4 x7_2).f1) ((rd_T24 l0_4 x7_2).f2) ((rd_T24 l0_4 x7_2).f3) _ _ ((rd_T24 l0_4 x7_2).f4) x1_2 (wrap64 (a2 - 1)) t132 _ ?side1 ?side2 A10.out).mono ?_); (case side1 => repeat (first|exact (Kd.C_below HR131_4.out HB.out)|(with_reducible refine Kd.C_alloc ?_ _)|(with_reducible refine Kd.C_drewN ?_ _)|(with_reducible refine Kd.C_drew ?_))); (case side2 => exact HC131_4.out); rintro e w15 ⟨rfl, hb⟩; refine ⟨_, rfl, ?_⟩; have n0_ := Aside0.mk (blk_below (g := gb130) (o := .cells #[.int .i64 a0_0, .string a0_1, .int .i64 a0_2, .int .i64 a0_3, .slice (some ad131) l0_4.length c0_4] 24 (0, 0)) (by (with_reducible repeat (first|refine blk_drewN ?_ _|refine blk_drew ?_|refine blk_alloc ?_ _)); exact BK130.out) hb); have n1_ := Aside0.mk (below_step (by repeat (first|(with_reducible first|exact HB.out|apply below_alloc|apply pw_below_drewN|apply below_drew1|refine below_set ?_ GE130.out)|exact HB.out)) hb); clear BK130; clear HB; have BK130 := n0_; have HB := n1_; clear n0_ n1_; (try clear hb); (try clear hb2); (try clear hk); (try clear hi)))
         go_roundg k2
         case measure => have := HJ3.out; have := HK2.out; omega
         case rel => exact ⟨(t132), (wrap64 (x7_2 + 1)), (by first|rfl|(simp; done)|(simp [*]; done)), (by first|rfl|(simp; done)|(simp [*]; done)), H', ⟨by have := HJ3.out; have := HK2.out; omega⟩, ⟨by (with_reducible repeat (first|refine blk_drewN ?_ _|refine blk_drew ?_|refine blk_alloc ?_ _)); exact BK130.out⟩, ⟨by repeat (first|(with_reducible first|exact HB.out|apply below_alloc|apply pw_below_drewN|apply below_drew1|refine below_set ?_ GE130.out)|exact HB.out)⟩⟩
       ·rw [if_neg c9] at H
        exact absurd H (by simp)
      ·rw [if_neg c8] at H
       have c8b0 : decide (x7_2 < (l0_4.length : Int)) = false := decide_eq_false c8
       clear c8
       obtain rfl := Option.some.inj H
       have hcz16_0 : wr.cell? ⟨gb130, 0, none⟩ = some (.int .i64 a0_0) := (blk_cell BK130.out 0).trans rfl
       have hcz16_1 : wr.cell? ⟨gb130, 1, none⟩ = some (.string a0_1) := (blk_cell BK130.out 1).trans rfl
       have hcz16_2 : wr.cell? ⟨gb130, 2, none⟩ = some (.int .i64 a0_2) := (blk_cell BK130.out 2).trans rfl
       have hcz16_3 : wr.cell? ⟨gb130, 3, none⟩ = some (.int .i64 a0_3) := (blk_cell BK130.out 3).trans rfl
       have hcz16_4 : wr.cell? ⟨gb130, 4, none⟩ = some (.slice A0_4 l0_4.length c0_4) := (blk_cell BK130.out 4).trans rfl
       have hfz16_0 := blk_frozen BK130.out 0
       have hfz16_1 := blk_frozen BK130.out 1
       have hfz16_2 := blk_frozen BK130.out 2
       have hfz16_3 := blk_frozen BK130.out 3
       have hfz16_4 := blk_frozen BK130.out 4
       go_wp2
       go_ret
       exact ⟨by first|rfl|(simp [errW_none, errW_some] <;> rfl)|(simp [*, errW_none, errW_some] <;> rfl), by repeat (first|(with_reducible first|exact HB.out|apply below_alloc|apply pw_below_drewN|apply below_drew1|refine below_set ?_ GE130.out)|exact HB.out)⟩

end Go.Proofs.YthdkjfhpbigdpaaDoor.Q

namespace Go.Proofs.YthdkjfhpbigdpaaDoor.Q
open Go.RowKit Go.Proofs.YthdkjfhpbigdpaaDoorW.PrintWords Go.Proofs.YthdkjfhpbigdpaaDoorW.PrintLast Go.Proofs.YthdkjfhpbigdpaaDoorW.PrintMore
attribute [local go_sem] max2_int min2_int max_two min_two max_three min_three max_four min_four
set_option linter.unusedVariables false
set_option linter.unusedSimpArgs false

def gossamerref02_Small.f (k : Nat) (a0_0 : Int) (a0_1 : ByteArray) (a0_2 : Int) (a0_3 : Int) (l0_4 : List (S24)) (a1 : Int) : Option (Bool) := (gossamerref02_few.f k a0_0 a0_1 a0_2 a0_3 l0_4 a1 200).bind fun t134 => (some (decide (t134 ≥ 0)))
theorem gossamerref02_Small.mono : ∀ a0 a1 a2 a3 a4 a5 k, LeO (gossamerref02_Small.f k a0 a1 a2 a3 a4 a5) (gossamerref02_Small.f (k + 1) a0 a1 a2 a3 a4 a5) := by
 intro a0 a1 a2 a3 a4 a5 k
 unfold gossamerref02_Small.f
 repeat' first
  |(with_reducible exact gossamerref02_few.mono _ _ _ _ _ _ _ _)
  |(with_reducible exact LeO.refl _)
  |(with_reducible exact LeO.none _)
  |(with_reducible refine LeO.ite ?_ ?_)
  |(with_reducible refine LeO.bind ?_ (fun _ => ?_))
  |exact gossamerref02_few.mono _ _ _ _ _ _ _ _
  |exact LeO.none _
  |refine LeO.ite ?_ ?_
  |refine LeO.bind ?_ (fun _ => ?_)
set_option maxHeartbeats 8000000 in
set_option maxRecDepth 100000 in
theorem gossamerref02_Small.calls (k : Nat) (a0_0 : Int) (a0_1 : ByteArray) (a0_2 : Int) (a0_3 : Int) (A0_4 : Option Addr) (c0_4 : Nat) (l0_4 : List (S24)) (a1 : Int) (r : Bool) (w : World) (hr0_4 : Kd.C k24 w A0_4 l0_4.length l0_4) (hc0_4 : l0_4.length ≤ c0_4) (h : gossamerref02_Small.f k a0_0 a0_1 a0_2 a0_3 l0_4 a1 = some r) :
  Calls Tryd.prog 9 #[.agg #[.int .i64 a0_0, .string a0_1, .int .i64 a0_2, .int .i64 a0_3, .slice A0_4 l0_4.length c0_4], .int .i64 a1] w fun e w' => e = .returned (.bool r) ∧ Below w.heap.size w w' := by
 have hu24 := Tryd.underlying24
 have HR0_4 := Aside0.mk hr0_4
 have HC0_4 := Aside0.mk hc0_4
 clear hr0_4 hc0_4
 have HB := Aside0.mk (Below.refl w.heap.size w)
 have H : ((gossamerref02_few.f k a0_0 a0_1 a0_2 a0_3 l0_4 a1 200).bind fun t134 => (some (decide (t134 ≥ 0)))) = some r := h
 clear h
 replace H := Option.bind_eq_some_iff.mp H
 obtain ⟨t134, A30, H⟩ := H
 replace H : (some (decide (t134 ≥ 0))) = some r := H
 have A3 := Aside0.mk A30
 clear A30
 obtain rfl := Option.some.inj H
 go_enter Tryd.func9, Tryd.ntmps9
 go_wp2_with (first|((with_reducible refine gate_dst (N := 2) rfl ?_); refine box_event ?hg (N := 2) ?hd (cs := #[.int .i64 a0_0, .string a0_1, .int .i64 a0_2, .int .i64 a0_3, .slice A0_4 l0_4.length c0_4]) (t := 24) ?hr ?_; (case hd => rfl); (case hg => rfl); (case hr => first|(go_simp; done)|(go_simp; rfl)); intro gb133 hg w4 hbox hb; have n0_ := Aside0.mk (below_step (by repeat (first|(with_reducible first|exact HB.out|apply below_alloc|apply pw_below_drewN|apply below_drew1)|exact HB.out)) hb); have n1_ := Aside0.mk (hbox); have n2_ := Aside0.mk ((by rw [hg]; exact (below_size (by repeat (first|(with_reducible first|exact HB.out|apply below_alloc|apply pw_below_drewN|apply below_drew1)|exact HB.out))) : w.heap.size ≤ gb133)); have n3_ := Aside0.mk ((by rw [hg]; exact (below_size (by repeat (first|(with_reducible first|exact HB.out|apply below_alloc|apply pw_below_drewN|apply below_drew1)|exact HB.out))) : w.heap.size ≤ gb133)); clear HB; have HB := n0_; have BK133 := n1_; have GW133 := n2_; have GE133 := n3_; clear n0_ n1_ n2_ n3_; clear hb hbox hg; have hcz5_0 : w4.cell? ⟨gb133, 0, none⟩ = some (.int .i64 a0_0) := (blk_cell BK133.out 0).trans rfl; have hcz5_1 : w4.cell? ⟨gb133, 1, none⟩ = some (.string a0_1) := (blk_cell BK133.out 1).trans rfl; have hcz5_2 : w4.cell? ⟨gb133, 2, none⟩ = some (.int .i64 a0_2) := (blk_cell BK133.out 2).trans rfl; have hcz5_3 : w4.cell? ⟨gb133, 3, none⟩ = some (.int .i64 a0_3) := (blk_cell BK133.out 3).trans rfl; have hcz5_4 : w4.cell? ⟨gb133, 4, none⟩ = some (.slice A0_4 l0_4.length c0_4) := (blk_cell BK133.out 4).trans rfl; have hfz5_0 := blk_frozen BK133.out 0; have hfz5_1 := blk_frozen BK133.out 1; have hfz5_2 := blk_frozen BK133.out 2; have hfz5_3 := blk_frozen BK133.out 3; have hfz5_4 := blk_frozen BK133.out 4) | ((with_reducible refine gate_callee (f := 19) rfl ?_); refine goesL_ (some 7) rfl rfl Tryd.func19 (by kernel_rfl) rfl #[.agg #[.int .i64 a0_0, .string a0_1, .int .i64 a0_2, .int .i64 a0_3, .slice A0_4 l0_4.length c0_4], .int .i64 a1, .int .i64 200] rfl (by (try simp only [List.map_toArray, List.map_cons, List.map_nil]); first|done|rfl|(simp only [List.length_drop, List.length_take]; rfl)) ?_; (with_reducible refine (gossamerref02_few.calls k a0_0 a0_1 a0_2 a0_3 _ _ l0_4 a1 200 t134 _ ?side1 ?side2 A3.out).mono ?_); (case side1 => repeat (first|exact (Kd.C_below HR0_4.out HB.out)|(with_reducible refine Kd.C_alloc ?_ _)|(with_reducible refine Kd.C_drewN ?_ _)|(with_reducible refine Kd.C_drew ?_))); (case side2 => exact HC0_4.out); rintro e w6 ⟨rfl, hb⟩; refine ⟨_, rfl, ?_⟩; have n0_ := Aside0.mk (blk_below (g := gb133) (o := .cells #[.int .i64 a0_0, .string a0_1, .int .i64 a0_2, .int .i64 a0_3, .slice A0_4 l0_4.length c0_4] 24 (0, 0)) (by (with_reducible repeat (first|refine blk_drewN ?_ _|refine blk_drew ?_|refine blk_alloc ?_ _)); exact BK133.out) hb); have n1_ := Aside0.mk (below_step (by repeat (first|(with_reducible first|exact HB.out|apply below_alloc|apply pw_below_drewN|apply below_drew1|refine below_set ?_ GE133.out)|exact HB.out)) hb); clear BK133; clear HB; have BK133 := n0_; have HB := n1_; clear n0_ n1_; (try clear hb); (try clear hb2); (try clear hk); (try clear hi)))
 go_ret
 exact ⟨by first|rfl|(simp [errW_none, errW_some] <;> rfl)|(simp [*, errW_none, errW_some] <;> rfl), by repeat (first|(with_reducible first|exact HB.out|apply below_alloc|apply pw_below_drewN|apply below_drew1|refine below_set ?_ GE133.out)|exact HB.out)⟩

end Go.Proofs.YthdkjfhpbigdpaaDoor.Q

namespace Go.Proofs.YthdkjfhpbigdpaaDoor.Q
open Go.RowKit Go.Proofs.YthdkjfhpbigdpaaDoorW.PrintWords Go.Proofs.YthdkjfhpbigdpaaDoorW.PrintLast Go.Proofs.YthdkjfhpbigdpaaDoorW.PrintMore
attribute [local go_sem] max2_int min2_int max_two min_two max_three min_three max_four min_four
set_option linter.unusedVariables false
set_option linter.unusedSimpArgs false

mutual
def gossamerref01_class.j0 : Nat → Int → Bool → Option (Int)
 | 0, _, _ => none
 | k + 1, x0, x8 => if x8 = true then (some 1) else (if x0 ≥ 65 then (gossamerref01_class.j1 k x0 (decide (x0 ≤ 90))) else (gossamerref01_class.j1 k x0 false))
def gossamerref01_class.j1 : Nat → Int → Bool → Option (Int)
 | 0, _, _ => none
 | k + 1, x0, x14 => if x14 = true then (some 2) else (if x0 ≥ 48 then (gossamerref01_class.j2 k x0 (decide (x0 ≤ 57))) else (gossamerref01_class.j2 k x0 false))
def gossamerref01_class.j2 : Nat → Int → Bool → Option (Int)
 | 0, _, _ => none
 | k + 1, x0, x20 => if x20 = true then (some 3) else (if x0 = 32 then (some 4) else (if x0 = 10 then (some 4) else (if x0 = 9 then (some 4) else (some 0))))
end
def gossamerref01_class.f (k : Nat) (a0 : Int) : Option (Int) := if a0 ≥ 97 then (gossamerref01_class.j0 k a0 (decide (a0 ≤ 122))) else (gossamerref01_class.j0 k a0 false)
theorem gossamerref01_class.mono_l : ∀ k, (∀ y0 y1, LeO (gossamerref01_class.j0 k y0 y1) (gossamerref01_class.j0 (k + 1) y0 y1)) ∧ (∀ y0 y1, LeO (gossamerref01_class.j1 k y0 y1) (gossamerref01_class.j1 (k + 1) y0 y1)) ∧ (∀ y0 y1, LeO (gossamerref01_class.j2 k y0 y1) (gossamerref01_class.j2 (k + 1) y0 y1))
 | 0 => ⟨fun _ _ r h => by simp [gossamerref01_class.j0] at h, fun _ _ r h => by simp [gossamerref01_class.j1] at h, fun _ _ r h => by simp [gossamerref01_class.j2] at h⟩
 | k + 1 => by
  obtain ⟨ih0, ih1, ih2⟩ := gossamerref01_class.mono_l k
  refine ⟨?_, ?_, ?_⟩
  ·intro y0 y1
   unfold gossamerref01_class.j0
   repeat' first
  |(with_reducible exact ih0 _ _)
  |(with_reducible exact ih1 _ _)
  |(with_reducible exact ih2 _ _)
  |(with_reducible exact LeO.refl _)
  |(with_reducible exact LeO.none _)
  |(with_reducible refine LeO.ite ?_ ?_)
  |(with_reducible refine LeO.bind ?_ (fun _ => ?_))
  |exact ih0 _ _
  |exact ih1 _ _
  |exact ih2 _ _
  |exact LeO.none _
  |refine LeO.ite ?_ ?_
  |refine LeO.bind ?_ (fun _ => ?_)
  ·intro y0 y1
   unfold gossamerref01_class.j1
   repeat' first
  |(with_reducible exact ih0 _ _)
  |(with_reducible exact ih1 _ _)
  |(with_reducible exact ih2 _ _)
  |(with_reducible exact LeO.refl _)
  |(with_reducible exact LeO.none _)
  |(with_reducible refine LeO.ite ?_ ?_)
  |(with_reducible refine LeO.bind ?_ (fun _ => ?_))
  |exact ih0 _ _
  |exact ih1 _ _
  |exact ih2 _ _
  |exact LeO.none _
  |refine LeO.ite ?_ ?_
  |refine LeO.bind ?_ (fun _ => ?_)
  ·intro y0 y1
   unfold gossamerref01_class.j2
   repeat' first
  |(with_reducible exact ih0 _ _)
  |(with_reducible exact ih1 _ _)
  |(with_reducible exact ih2 _ _)
  |(with_reducible exact LeO.refl _)
  |(with_reducible exact LeO.none _)
  |(with_reducible refine LeO.ite ?_ ?_)
  |(with_reducible refine LeO.bind ?_ (fun _ => ?_))
  |exact ih0 _ _
  |exact ih1 _ _
  |exact ih2 _ _
  |exact LeO.none _
  |refine LeO.ite ?_ ?_
  |refine LeO.bind ?_ (fun _ => ?_)
theorem gossamerref01_class.mono : ∀ a0 k, LeO (gossamerref01_class.f k a0) (gossamerref01_class.f (k + 1) a0) := by
 intro a0 k
 obtain ⟨ih0, ih1, ih2⟩ := gossamerref01_class.mono_l k
 unfold gossamerref01_class.f
 repeat' first
  |(with_reducible exact ih0 _ _)
  |(with_reducible exact ih1 _ _)
  |(with_reducible exact ih2 _ _)
  |(with_reducible exact LeO.refl _)
  |(with_reducible exact LeO.none _)
  |(with_reducible refine LeO.ite ?_ ?_)
  |(with_reducible refine LeO.bind ?_ (fun _ => ?_))
  |exact ih0 _ _
  |exact ih1 _ _
  |exact ih2 _ _
  |exact LeO.none _
  |refine LeO.ite ?_ ?_
  |refine LeO.bind ?_ (fun _ => ?_)
set_option maxHeartbeats 8000000 in
set_option maxRecDepth 100000 in
theorem gossamerref01_class.calls (k : Nat) (a0 : Int) (r : Int) (w : World) (h : gossamerref01_class.f k a0 = some r) :
  Calls Tryd.prog 24 #[.int .u8 a0] w fun e w' => e = .returned (.int .i64 r) ∧ Drawn0 w w' := by
 have H : (if a0 ≥ 97 then (gossamerref01_class.j0 k a0 (decide (a0 ≤ 122))) else (gossamerref01_class.j0 k a0 false)) = some r := h
 clear h
 have HC2 := Aside0.mk H
 clear H
 go_enter Tryd.func24, Tryd.ntmps24
 go_upto_region 1 with (fail)
 go_cut [8] (fun v8 wc => ∃ (kq : Nat) (x8_1 : Bool), v8 = .bool x8_1 ∧ Aside0 (gossamerref01_class.j0 kq a0 x8_1 = some r) ∧ Aside0 (kq ≤ k) ∧ Drawn0 w wc)
 case first =>
  have H := HC2.out
  clear HC2
  by_cases c3 : a0 ≥ 97
  ·rw [if_pos c3] at H
   have c3b0 : decide (97 ≤ a0) = true := decide_eq_true c3
   clear c3
   (first|rw [c3b0]|(simp only [i64_w, i32_w]; rw [c3b0]) | skip)
   have H' := Aside0.mk H
   clear H
   go_wp2
   go_meet
   case rel => exact ⟨_, (decide (a0 ≤ 122)), (by first|rfl|(simp; done)|(simp [*]; done)), H', ⟨by first | omega|exact Nat.le_refl _⟩, by repeat (first|exact Drawn0.refl _|apply Drawn0.step)⟩
  ·rw [if_neg c3] at H
   have c3b0 : decide (97 ≤ a0) = false := decide_eq_false c3
   clear c3
   (first|rw [c3b0]|(simp only [i64_w, i32_w]; rw [c3b0]) | skip)
   have H' := Aside0.mk H
   clear H
   go_wp2
   go_meet
   case rel => exact ⟨_, (false), (by first|rfl|(simp; done)|(simp [*]; done)), H', ⟨by first | omega|exact Nat.le_refl _⟩, by repeat (first|exact Drawn0.refl _|apply Drawn0.step)⟩
 case rest =>
  clear HC2
  try clear c2
  try clear p2
  try clear c3
  try clear c3b0
  obtain ⟨kq, x8_1, rfl, HA, HJ1, ⟨mc1, rfl⟩⟩ := hcut
  cases kq with
  | zero => exact absurd HA.out (by simp [gossamerref01_class.j0])
  | succ kj1 =>
   have H := HA.out
   clear HA
   simp only [gossamerref01_class.j0] at H
   by_cases c4 : x8_1 = true
   ·subst c4
    have H1 : (some 1) = some r := by rw [if_pos rfl] at H; exact H
    clear H
    have H := H1
    clear H1
    obtain rfl := Option.some.inj H
    go_wp2
    go_ret
    exact ⟨by first|rfl|(simp; done)|(simp [*]; done), by repeat (first|exact Drawn0.refl _|apply Drawn0.step)⟩
   ·replace c4 := Bool.eq_false_iff.mpr c4
    subst c4
    have H1 : (if a0 ≥ 65 then (gossamerref01_class.j1 kj1 a0 (decide (a0 ≤ 90))) else (gossamerref01_class.j1 kj1 a0 false)) = some r := by rw [if_neg (show ¬ (false = true) by decide)] at H; exact H
    clear H
    have H := H1
    clear H1
    have HC5 := Aside0.mk H
    clear H
    go_upto_region 3 with (fail)
    go_cut [14] (fun v14 wc => ∃ (kq : Nat) (x14_4 : Bool), v14 = .bool x14_4 ∧ Aside0 (gossamerref01_class.j1 kq a0 x14_4 = some r) ∧ Aside0 (kq ≤ kj1) ∧ Drawn0 w wc)
    case first =>
     have H := HC5.out
     clear HC5
     by_cases c6 : a0 ≥ 65
     ·rw [if_pos c6] at H
      have c6b0 : decide (65 ≤ a0) = true := decide_eq_true c6
      clear c6
      (first|rw [c6b0]|(simp only [i64_w, i32_w]; rw [c6b0]) | skip)
      have H' := Aside0.mk H
      clear H
      go_wp2
      go_meet
      case rel => exact ⟨_, (decide (a0 ≤ 90)), (by first|rfl|(simp; done)|(simp [*]; done)), H', ⟨by have := HJ1.out; first | omega|exact Nat.le_refl _⟩, by repeat (first|exact Drawn0.refl _|apply Drawn0.step)⟩
     ·rw [if_neg c6] at H
      have c6b0 : decide (65 ≤ a0) = false := decide_eq_false c6
      clear c6
      (first|rw [c6b0]|(simp only [i64_w, i32_w]; rw [c6b0]) | skip)
      have H' := Aside0.mk H
      clear H
      go_wp2
      go_meet
      case rel => exact ⟨_, (false), (by first|rfl|(simp; done)|(simp [*]; done)), H', ⟨by have := HJ1.out; first | omega|exact Nat.le_refl _⟩, by repeat (first|exact Drawn0.refl _|apply Drawn0.step)⟩
    case rest =>
     clear HC5
     try clear c1
     try clear c2
     try clear p2
     try clear c3
     try clear c3b0
     try clear c4
     try clear c6
     try clear c6b0
     try clear p2
     obtain ⟨kq, x14_4, rfl, HA, HJ4, ⟨mc4, rfl⟩⟩ := hcut
     cases kq with
     | zero => exact absurd HA.out (by simp [gossamerref01_class.j1])
     | succ kj4 =>
      have H := HA.out
      clear HA
      simp only [gossamerref01_class.j1] at H
      by_cases c7 : x14_4 = true
      ·subst c7
       have H1 : (some 2) = some r := by rw [if_pos rfl] at H; exact H
       clear H
       have H := H1
       clear H1
       obtain rfl := Option.some.inj H
       go_wp2
       go_ret
       exact ⟨by first|rfl|(simp; done)|(simp [*]; done), by repeat (first|exact Drawn0.refl _|apply Drawn0.step)⟩
      ·replace c7 := Bool.eq_false_iff.mpr c7
       subst c7
       have H1 : (if a0 ≥ 48 then (gossamerref01_class.j2 kj4 a0 (decide (a0 ≤ 57))) else (gossamerref01_class.j2 kj4 a0 false)) = some r := by rw [if_neg (show ¬ (false = true) by decide)] at H; exact H
       clear H
       have H := H1
       clear H1
       have HC8 := Aside0.mk H
       clear H
       go_upto_region 5 with (fail)
       go_cut [20] (fun v20 wc => ∃ (kq : Nat) (x20_7 : Bool), v20 = .bool x20_7 ∧ Aside0 (gossamerref01_class.j2 kq a0 x20_7 = some r) ∧ Aside0 (kq ≤ kj4) ∧ Drawn0 w wc)
       case first =>
        have H := HC8.out
        clear HC8
        by_cases c9 : a0 ≥ 48
        ·rw [if_pos c9] at H
         have c9b0 : decide (48 ≤ a0) = true := decide_eq_true c9
         clear c9
         (first|rw [c9b0]|(simp only [i64_w, i32_w]; rw [c9b0]) | skip)
         have H' := Aside0.mk H
         clear H
         go_wp2
         go_meet
         case rel => exact ⟨_, (decide (a0 ≤ 57)), (by first|rfl|(simp; done)|(simp [*]; done)), H', ⟨by have := HJ1.out; have := HJ4.out; first | omega|exact Nat.le_refl _⟩, by repeat (first|exact Drawn0.refl _|apply Drawn0.step)⟩
        ·rw [if_neg c9] at H
         have c9b0 : decide (48 ≤ a0) = false := decide_eq_false c9
         clear c9
         (first|rw [c9b0]|(simp only [i64_w, i32_w]; rw [c9b0]) | skip)
         have H' := Aside0.mk H
         clear H
         go_wp2
         go_meet
         case rel => exact ⟨_, (false), (by first|rfl|(simp; done)|(simp [*]; done)), H', ⟨by have := HJ1.out; have := HJ4.out; first | omega|exact Nat.le_refl _⟩, by repeat (first|exact Drawn0.refl _|apply Drawn0.step)⟩
       case rest =>
        clear HC8
        try clear c1
        try clear c2
        try clear p2
        try clear c3
        try clear c3b0
        try clear c4
        try clear c6
        try clear c6b0
        try clear c7
        try clear c9
        try clear c9b0
        try clear p2
        obtain ⟨kq, x20_7, rfl, HA, HJ7, ⟨mc7, rfl⟩⟩ := hcut
        cases kq with
        | zero => exact absurd HA.out (by simp [gossamerref01_class.j2])
        | succ kj7 =>
         have H := HA.out
         clear HA
         simp only [gossamerref01_class.j2] at H
         by_cases c10 : x20_7 = true
         ·subst c10
          have H1 : (some 3) = some r := by rw [if_pos rfl] at H; exact H
          clear H
          have H := H1
          clear H1
          obtain rfl := Option.some.inj H
          go_wp2
          go_ret
          exact ⟨by first|rfl|(simp; done)|(simp [*]; done), by repeat (first|exact Drawn0.refl _|apply Drawn0.step)⟩
         ·replace c10 := Bool.eq_false_iff.mpr c10
          subst c10
          have H1 : (if a0 = 32 then (some 4) else (if a0 = 10 then (some 4) else (if a0 = 9 then (some 4) else (some 0)))) = some r := by rw [if_neg (show ¬ (false = true) by decide)] at H; exact H
          clear H
          have H := H1
          clear H1
          by_cases c11 : a0 = 32
          ·rw [if_pos c11] at H
           have c11b0 : (a0 == 32) = true := beq_iff_eq.mpr c11
           have c11b1 : (a0 != 32) = false := bne_eq_false_iff_eq.mpr c11
           clear c11
           obtain rfl := Option.some.inj H
           go_wp2
           go_ret
           exact ⟨by first|rfl|(simp; done)|(simp [*]; done), by repeat (first|exact Drawn0.refl _|apply Drawn0.step)⟩
          ·rw [if_neg c11] at H
           have c11b0 : (a0 == 32) = false := beq_eq_false_iff_ne.mpr c11
           have c11b1 : (a0 != 32) = true := bne_iff_ne.mpr c11
           by_cases c12 : a0 = 10
           ·rw [if_pos c12] at H
            have c12b0 : (a0 == 10) = true := beq_iff_eq.mpr c12
            have c12b1 : (a0 != 10) = false := bne_eq_false_iff_eq.mpr c12
            clear c12
            obtain rfl := Option.some.inj H
            go_wp2
            go_ret
            exact ⟨by first|rfl|(simp; done)|(simp [*]; done), by repeat (first|exact Drawn0.refl _|apply Drawn0.step)⟩
           ·rw [if_neg c12] at H
            have c12b0 : (a0 == 10) = false := beq_eq_false_iff_ne.mpr c12
            have c12b1 : (a0 != 10) = true := bne_iff_ne.mpr c12
            by_cases c13 : a0 = 9
            ·rw [if_pos c13] at H
             have c13b0 : (a0 == 9) = true := beq_iff_eq.mpr c13
             have c13b1 : (a0 != 9) = false := bne_eq_false_iff_eq.mpr c13
             clear c13
             obtain rfl := Option.some.inj H
             go_wp2
             go_ret
             exact ⟨by first|rfl|(simp; done)|(simp [*]; done), by repeat (first|exact Drawn0.refl _|apply Drawn0.step)⟩
            ·rw [if_neg c13] at H
             have c13b0 : (a0 == 9) = false := beq_eq_false_iff_ne.mpr c13
             have c13b1 : (a0 != 9) = true := bne_iff_ne.mpr c13
             obtain rfl := Option.some.inj H
             go_wp2
             go_ret
             exact ⟨by first|rfl|(simp; done)|(simp [*]; done), by repeat (first|exact Drawn0.refl _|apply Drawn0.step)⟩

end Go.Proofs.YthdkjfhpbigdpaaDoor.Q

namespace Go.Proofs.YthdkjfhpbigdpaaDoor.Q
open Go.RowKit Go.Proofs.YthdkjfhpbigdpaaDoorW.PrintWords Go.Proofs.YthdkjfhpbigdpaaDoorW.PrintLast Go.Proofs.YthdkjfhpbigdpaaDoorW.PrintMore
attribute [local go_sem] max2_int min2_int max_two min_two max_three min_three max_four min_four
set_option linter.unusedVariables false
set_option linter.unusedSimpArgs false

def gossamerref01_run.l0 : Nat → ByteArray → Int → Int → Bool → Option (Int × Bool)
 | 0, _, _, _, _ => none
 | k + 1, x0, x1, x6, x7 => if (wrap64 (x1 + x6)) < (x0.size : Int) then (if 0 ≤ (wrap64 (x1 + x6)) then ((gossamerref01_class.f k (bt x0 (wrap64 (x1 + x6)))).bind fun t143 => (if t143 < 1 then (some (x6, x7)) else (if t143 > 3 then (some (x6, x7)) else (if x7 = true then (gossamerref01_run.l0 k x0 x1 (wrap64 (x6 + 1)) true) else (gossamerref01_run.l0 k x0 x1 (wrap64 (x6 + 1)) (decide (t143 < 3))))))) else (none)) else (some (x6, x7))
def gossamerref01_run.f (k : Nat) (a0 : ByteArray) (a1 : Int) : Option (Int × Bool) := gossamerref01_run.l0 k a0 a1 0 false
theorem gossamerref01_run.mono_l : ∀ k, (∀ y0 y1 y2 y3, LeO (gossamerref01_run.l0 k y0 y1 y2 y3) (gossamerref01_run.l0 (k + 1) y0 y1 y2 y3))
 | 0 => fun _ _ _ _ r h => by simp [gossamerref01_run.l0] at h
 | k + 1 => by
  have ih0 := gossamerref01_run.mono_l k
  ·intro y0 y1 y2 y3
   unfold gossamerref01_run.l0
   repeat' first
  |(with_reducible exact ih0 _ _ _ _)
  |(with_reducible exact gossamerref01_class.mono _ _)
  |(with_reducible exact LeO.refl _)
  |(with_reducible exact LeO.none _)
  |(with_reducible refine LeO.ite ?_ ?_)
  |(with_reducible refine LeO.bind ?_ (fun _ => ?_))
  |exact ih0 _ _ _ _
  |exact gossamerref01_class.mono _ _
  |exact LeO.none _
  |refine LeO.ite ?_ ?_
  |refine LeO.bind ?_ (fun _ => ?_)
theorem gossamerref01_run.mono : ∀ a0 a1 k, LeO (gossamerref01_run.f k a0 a1) (gossamerref01_run.f (k + 1) a0 a1) := by
 intro a0 a1 k
 have ih0 := gossamerref01_run.mono_l k
 unfold gossamerref01_run.f
 repeat' first
  |(with_reducible exact ih0 _ _ _ _)
  |(with_reducible exact gossamerref01_class.mono _ _)
  |(with_reducible exact LeO.refl _)
  |(with_reducible exact LeO.none _)
  |(with_reducible refine LeO.ite ?_ ?_)
  |(with_reducible refine LeO.bind ?_ (fun _ => ?_))
  |exact ih0 _ _ _ _
  |exact gossamerref01_class.mono _ _
  |exact LeO.none _
  |refine LeO.ite ?_ ?_
  |refine LeO.bind ?_ (fun _ => ?_)
set_option maxHeartbeats 8000000 in
set_option maxRecDepth 100000 in
theorem gossamerref01_run.calls (k : Nat) (a0 : ByteArray) (a1 : Int) (r1 : Int) (r2 : Bool) (w : World) (h : gossamerref01_run.f k a0 a1 = some (r1, r2)) :
  Calls Tryd.prog 22 #[.string a0, .int .i64 a1] w fun e w' => e = .returned (.tuple #[.int .i64 r1, .bool r2]) ∧ Drawn0 w w' := by
 have H : (gossamerref01_run.l0 k a0 a1 0 false) = some (r1, r2) := h
 clear h
 have H' := Aside0.mk H
 clear H
 go_enter Tryd.func22, Tryd.ntmps22
 go_wp2
 go_loopg [6, 7] k (fun kq v6 v7 w' => ∃ (x6_1 : Int) (x7_1 : Bool), v6 = .int .i64 x6_1 ∧ v7 = .bool x7_1 ∧ Aside0 (gossamerref01_run.l0 kq a0 a1 x6_1 x7_1 = some (r1, r2)) ∧ Aside0 (kq ≤ k) ∧ Drawn0 w w')
 case atStart => exact ⟨(0), (false), (by first|rfl|(simp; done)|(simp [*]; done)), (by first|rfl|(simp; done)|(simp [*]; done)), H', ⟨Nat.le_refl _⟩, by repeat (first|exact Drawn0.refl _|apply Drawn0.step)⟩
 case round =>
  clear H'
  try clear c2
  try clear p2
  obtain ⟨x6_1, x7_1, rfl, rfl, HA, HK1, ⟨m1, rfl⟩⟩ := hrel
  cases gk with
  | zero => exact absurd HA.out (by simp [gossamerref01_run.l0])
  | succ k1 =>
   have H := HA.out
   clear HA
   simp only [gossamerref01_run.l0] at H
   by_cases c3 : (wrap64 (a1 + x6_1)) < (a0.size : Int)
   ·rw [if_pos c3] at H
    have c3b0 : decide ((wrap64 (a1 + x6_1)) < (a0.size : Int)) = true := decide_eq_true c3
    clear c3
    obtain ⟨ji4, hji4⟩ : ∃ j_ : Int, (wrap64 (a1 + x6_1)) = j_ := ⟨_, rfl⟩
    replace H : (if 0 ≤ (ji4) then ((gossamerref01_class.f k1 (bt a0 (ji4))).bind fun t143 => (if t143 < 1 then (some (x6_1, x7_1)) else (if t143 > 3 then (some (x6_1, x7_1)) else (if x7_1 = true then (gossamerref01_run.l0 k1 a0 a1 (wrap64 (x6_1 + 1)) true) else (gossamerref01_run.l0 k1 a0 a1 (wrap64 (x6_1 + 1)) (decide (t143 < 3))))))) else (none)) = some (r1, r2) := by first | (rw [hji4] at H; exact H)|(simp only [hji4] at H ⊢; exact H)
    (try rw [hji4] at c3b0)
    have hji4w : (IntKind.i64.wrap (a1 + x6_1)) = ji4 := (i64_w _).trans hji4
    by_cases c5 : 0 ≤ (ji4)
    ·rw [if_pos c5] at H
     have c5b0 : decide (0 ≤ (ji4)) = true := decide_eq_true c5
     clear c5
     replace H := Option.bind_eq_some_iff.mp H
     obtain ⟨t143, A70, H⟩ := H
     replace H : (if t143 < 1 then (some (x6_1, x7_1)) else (if t143 > 3 then (some (x6_1, x7_1)) else (if x7_1 = true then (gossamerref01_run.l0 k1 a0 a1 (wrap64 (x6_1 + 1)) true) else (gossamerref01_run.l0 k1 a0 a1 (wrap64 (x6_1 + 1)) (decide (t143 < 3)))))) = some (r1, r2) := H
     have A7 := Aside0.mk A70
     clear A70
     by_cases c8 : t143 < 1
     ·rw [if_pos c8] at H
      have c8b0 : decide (t143 < 1) = true := decide_eq_true c8
      clear c8
      simp only [Option.some.injEq, Prod.mk.injEq] at H
      obtain ⟨rfl, rfl⟩ := H
      have p6 : 0 ≤ ((ji4) : Int) := of_decide_eq_true (by first|(with_reducible assumption) | assumption)
      have q6 : (ji4) < (a0.size : Int) := of_decide_eq_true (by first|(with_reducible assumption) | assumption)
      have hx6 := bt_at a0 (ji4)
      replace p6 := eq_true p6
      replace q6 := eq_true q6
      go_wp2_with (first|((with_reducible refine gate_callee (f := 24) rfl ?_); refine goesL_ (some 20) rfl rfl Tryd.func24 (by kernel_rfl) rfl #[.int .u8 (bt a0 (ji4))] rfl (by (try simp only [List.map_toArray, List.map_cons, List.map_nil]); first|done|(simp only [hji4]; rfl)|rfl|(simp only [List.length_drop, List.length_take]; rfl)) ?_; (with_reducible refine (gossamerref01_class.calls k1 (bt a0 (ji4)) t143 _ A7.out).mono ?_); rintro e w' ⟨rfl, ⟨nd, rfl⟩⟩; refine ⟨_, rfl, ?_⟩))
      go_ret2
      exact ⟨by first|rfl|(simp; done)|(simp only [← hji4] <;> (first|rfl | simp))|(simp [*]; done), by repeat (first|exact Drawn0.refl _|apply Drawn0.step)⟩
     ·rw [if_neg c8] at H
      have c8b0 : decide (t143 < 1) = false := decide_eq_false c8
      clear c8
      by_cases c9 : t143 > 3
      ·rw [if_pos c9] at H
       have c9b0 : decide (3 < t143) = true := decide_eq_true c9
       clear c9
       simp only [Option.some.injEq, Prod.mk.injEq] at H
       obtain ⟨rfl, rfl⟩ := H
       have p6 : 0 ≤ ((ji4) : Int) := of_decide_eq_true (by first|(with_reducible assumption) | assumption)
       have q6 : (ji4) < (a0.size : Int) := of_decide_eq_true (by first|(with_reducible assumption) | assumption)
       have hx6 := bt_at a0 (ji4)
       replace p6 := eq_true p6
       replace q6 := eq_true q6
       go_wp2_with (first|((with_reducible refine gate_callee (f := 24) rfl ?_); refine goesL_ (some 20) rfl rfl Tryd.func24 (by kernel_rfl) rfl #[.int .u8 (bt a0 (ji4))] rfl (by (try simp only [List.map_toArray, List.map_cons, List.map_nil]); first|done|(simp only [hji4]; rfl)|rfl|(simp only [List.length_drop, List.length_take]; rfl)) ?_; (with_reducible refine (gossamerref01_class.calls k1 (bt a0 (ji4)) t143 _ A7.out).mono ?_); rintro e w' ⟨rfl, ⟨nd, rfl⟩⟩; refine ⟨_, rfl, ?_⟩))
       go_ret2
       exact ⟨by first|rfl|(simp; done)|(simp only [← hji4] <;> (first|rfl | simp))|(simp [*]; done), by repeat (first|exact Drawn0.refl _|apply Drawn0.step)⟩
      ·rw [if_neg c9] at H
       have c9b0 : decide (3 < t143) = false := decide_eq_false c9
       clear c9
       by_cases c10 : x7_1 = true
       ·subst c10
        have H1 : (gossamerref01_run.l0 k1 a0 a1 (wrap64 (x6_1 + 1)) true) = some (r1, r2) := by rw [if_pos rfl] at H; exact H
        clear H
        have H := H1
        clear H1
        have H' := Aside0.mk H
        clear H
        have p6 : 0 ≤ ((ji4) : Int) := of_decide_eq_true (by first|(with_reducible assumption) | assumption)
        have q6 : (ji4) < (a0.size : Int) := of_decide_eq_true (by first|(with_reducible assumption) | assumption)
        have hx6 := bt_at a0 (ji4)
        replace p6 := eq_true p6
        replace q6 := eq_true q6
        go_wp2_with (first|((with_reducible refine gate_callee (f := 24) rfl ?_); refine goesL_ (some 20) rfl rfl Tryd.func24 (by kernel_rfl) rfl #[.int .u8 (bt a0 (ji4))] rfl (by (try simp only [List.map_toArray, List.map_cons, List.map_nil]); first|done|(simp only [hji4]; rfl)|rfl|(simp only [List.length_drop, List.length_take]; rfl)) ?_; (with_reducible refine (gossamerref01_class.calls k1 (bt a0 (ji4)) t143 _ A7.out).mono ?_); rintro e w' ⟨rfl, ⟨nd, rfl⟩⟩; refine ⟨_, rfl, ?_⟩))
        go_roundg k1
        case measure => have := HK1.out; omega
        case rel => exact ⟨(wrap64 (x6_1 + 1)), (true), (by first|rfl|(simp; done)|(simp [*]; done)), (by first|rfl|(simp; done)|(simp [*]; done)), H', ⟨by have := HK1.out; omega⟩, by repeat (first|exact Drawn0.refl _|apply Drawn0.step)⟩
       ·replace c10 := Bool.eq_false_iff.mpr c10
        subst c10
        have H1 : (gossamerref01_run.l0 k1 a0 a1 (wrap64 (x6_1 + 1)) (decide (t143 < 3))) = some (r1, r2) := by rw [if_neg (show ¬ (false = true) by decide)] at H; exact H
        clear H
        have H := H1
        clear H1
        have H' := Aside0.mk H
        clear H
        have p6 : 0 ≤ ((ji4) : Int) := of_decide_eq_true (by first|(with_reducible assumption) | assumption)
        have q6 : (ji4) < (a0.size : Int) := of_decide_eq_true (by first|(with_reducible assumption) | assumption)
        have hx6 := bt_at a0 (ji4)
        replace p6 := eq_true p6
        replace q6 := eq_true q6
        go_wp2_with (first|((with_reducible refine gate_callee (f := 24) rfl ?_); refine goesL_ (some 20) rfl rfl Tryd.func24 (by kernel_rfl) rfl #[.int .u8 (bt a0 (ji4))] rfl (by (try simp only [List.map_toArray, List.map_cons, List.map_nil]); first|done|(simp only [hji4]; rfl)|rfl|(simp only [List.length_drop, List.length_take]; rfl)) ?_; (with_reducible refine (gossamerref01_class.calls k1 (bt a0 (ji4)) t143 _ A7.out).mono ?_); rintro e w' ⟨rfl, ⟨nd, rfl⟩⟩; refine ⟨_, rfl, ?_⟩))
        go_roundg k1
        case measure => have := HK1.out; omega
        case rel => exact ⟨(wrap64 (x6_1 + 1)), (decide (t143 < 3)), (by first|rfl|(simp; done)|(simp [*]; done)), (by first|rfl|(simp; done)|(simp [*]; done)), H', ⟨by have := HK1.out; omega⟩, by repeat (first|exact Drawn0.refl _|apply Drawn0.step)⟩
    ·rw [if_neg c5] at H
     exact absurd H (by simp)
   ·rw [if_neg c3] at H
    have c3b0 : decide ((wrap64 (a1 + x6_1)) < (a0.size : Int)) = false := decide_eq_false c3
    clear c3
    simp only [Option.some.injEq, Prod.mk.injEq] at H
    obtain ⟨rfl, rfl⟩ := H
    go_wp2
    go_ret2
    exact ⟨by first|rfl|(simp; done)|(simp [*]; done), by repeat (first|exact Drawn0.refl _|apply Drawn0.step)⟩

end Go.Proofs.YthdkjfhpbigdpaaDoor.Q

namespace Go.Proofs.YthdkjfhpbigdpaaDoor.Q
open Go.RowKit Go.Proofs.YthdkjfhpbigdpaaDoorW.PrintWords Go.Proofs.YthdkjfhpbigdpaaDoorW.PrintLast Go.Proofs.YthdkjfhpbigdpaaDoorW.PrintMore
attribute [local go_sem] max2_int min2_int max_two min_two max_three min_three max_four min_four
set_option linter.unusedVariables false
set_option linter.unusedSimpArgs false

mutual
def gossamerref01_sign.j0 : Nat → ByteArray → Int → Bool → Option (Int)
 | 0, _, _, _ => none
 | k + 1, x0, x1, x26 => if x26 = true then (some 2) else (gossamerref01_sign.l0 k x0 x1 0)
def gossamerref01_sign.l0 : Nat → ByteArray → Int → Int → Option (Int)
 | 0, _, _, _ => none
 | k + 1, x0, x1, x5 => if x5 < 13 then (if 0 ≤ x5 then (if 0 ≤ x1 then (if x1 < (x0.size : Int) then (if (bt (⟨#[92, 46, 40, 41, 61, 123, 125, 124, 43, 45, 42, 47, 60]⟩ : ByteArray) x5) = (bt x0 x1) then (some 1) else (gossamerref01_sign.l0 k x0 x1 (wrap64 (x5 + 1)))) else (none)) else (none)) else (none)) else (some 0)
end
def gossamerref01_sign.f (k : Nat) (a0 : ByteArray) (a1 : Int) : Option (Int) := if (wrap64 (a1 + 1)) < (a0.size : Int) then (if 0 ≤ a1 then (if a1 ≤ (wrap64 (a1 + 2)) then (if (wrap64 (a1 + 2)) ≤ (a0.size : Int) then (if (a0.extract (a1 : Int).toNat ((wrap64 (a1 + 2)) : Int).toNat).toList = ([45, 62] : List UInt8) then (gossamerref01_sign.j0 k a0 a1 true) else (gossamerref01_sign.j0 k a0 a1 ((a0.extract (a1 : Int).toNat ((wrap64 (a1 + 2)) : Int).toNat).toList == ([61, 61] : List UInt8)))) else (none)) else (none)) else (none)) else (gossamerref01_sign.j0 k a0 a1 false)
theorem gossamerref01_sign.mono_l : ∀ k, (∀ y0 y1 y2, LeO (gossamerref01_sign.j0 k y0 y1 y2) (gossamerref01_sign.j0 (k + 1) y0 y1 y2)) ∧ (∀ y0 y1 y2, LeO (gossamerref01_sign.l0 k y0 y1 y2) (gossamerref01_sign.l0 (k + 1) y0 y1 y2))
 | 0 => ⟨fun _ _ _ r h => by simp [gossamerref01_sign.j0] at h, fun _ _ _ r h => by simp [gossamerref01_sign.l0] at h⟩
 | k + 1 => by
  obtain ⟨ih0, ih1⟩ := gossamerref01_sign.mono_l k
  refine ⟨?_, ?_⟩
  ·intro y0 y1 y2
   unfold gossamerref01_sign.j0
   repeat' first
  |(with_reducible exact ih0 _ _ _)
  |(with_reducible exact ih1 _ _ _)
  |(with_reducible exact LeO.refl _)
  |(with_reducible exact LeO.none _)
  |(with_reducible refine LeO.ite ?_ ?_)
  |(with_reducible refine LeO.bind ?_ (fun _ => ?_))
  |exact ih0 _ _ _
  |exact ih1 _ _ _
  |exact LeO.none _
  |refine LeO.ite ?_ ?_
  |refine LeO.bind ?_ (fun _ => ?_)
  ·intro y0 y1 y2
   unfold gossamerref01_sign.l0
   repeat' first
  |(with_reducible exact ih0 _ _ _)
  |(with_reducible exact ih1 _ _ _)
  |(with_reducible exact LeO.refl _)
  |(with_reducible exact LeO.none _)
  |(with_reducible refine LeO.ite ?_ ?_)
  |(with_reducible refine LeO.bind ?_ (fun _ => ?_))
  |exact ih0 _ _ _
  |exact ih1 _ _ _
  |exact LeO.none _
  |refine LeO.ite ?_ ?_
  |refine LeO.bind ?_ (fun _ => ?_)
theorem gossamerref01_sign.mono : ∀ a0 a1 k, LeO (gossamerref01_sign.f k a0 a1) (gossamerref01_sign.f (k + 1) a0 a1) := by
 intro a0 a1 k
 obtain ⟨ih0, ih1⟩ := gossamerref01_sign.mono_l k
 unfold gossamerref01_sign.f
 repeat' first
  |(with_reducible exact ih0 _ _ _)
  |(with_reducible exact ih1 _ _ _)
  |(with_reducible exact LeO.refl _)
  |(with_reducible exact LeO.none _)
  |(with_reducible refine LeO.ite ?_ ?_)
  |(with_reducible refine LeO.bind ?_ (fun _ => ?_))
  |exact ih0 _ _ _
  |exact ih1 _ _ _
  |exact LeO.none _
  |refine LeO.ite ?_ ?_
  |refine LeO.bind ?_ (fun _ => ?_)
set_option maxHeartbeats 8000000 in
set_option maxRecDepth 100000 in
theorem gossamerref01_sign.calls (k : Nat) (a0 : ByteArray) (a1 : Int) (r : Int) (w : World) (h : gossamerref01_sign.f k a0 a1 = some r) :
  Calls Tryd.prog 23 #[.string a0, .int .i64 a1] w fun e w' => e = .returned (.int .i64 r) ∧ Drawn0 w w' := by
 have H : (if (wrap64 (a1 + 1)) < (a0.size : Int) then (if 0 ≤ a1 then (if a1 ≤ (wrap64 (a1 + 2)) then (if (wrap64 (a1 + 2)) ≤ (a0.size : Int) then (if (a0.extract (a1 : Int).toNat ((wrap64 (a1 + 2)) : Int).toNat).toList = ([45, 62] : List UInt8) then (gossamerref01_sign.j0 k a0 a1 true) else (gossamerref01_sign.j0 k a0 a1 ((a0.extract (a1 : Int).toNat ((wrap64 (a1 + 2)) : Int).toNat).toList == ([61, 61] : List UInt8)))) else (none)) else (none)) else (none)) else (gossamerref01_sign.j0 k a0 a1 false)) = some r := h
 clear h
 have HC3 := Aside0.mk H
 clear H
 go_enter Tryd.func23, Tryd.ntmps23
 go_upto_region 1 with (fail)
 repeat (go_quiet (fail); go_upto_region 1 with (fail))
 go_cut [26] (fun v26 wc => ∃ (kq : Nat) (x26_2 : Bool), v26 = .bool x26_2 ∧ Aside0 (gossamerref01_sign.j0 kq a0 a1 x26_2 = some r) ∧ Aside0 (kq ≤ k) ∧ Drawn0 w wc)
 case first =>
  have H := HC3.out
  clear HC3
  by_cases c4 : (wrap64 (a1 + 1)) < (a0.size : Int)
  ·rw [if_pos c4] at H
   have c4b0 : decide ((wrap64 (a1 + 1)) < (a0.size : Int)) = true := decide_eq_true c4
   clear c4
   (first|rw [c4b0]|(simp only [i64_w, i32_w]; rw [c4b0]) | skip)
   by_cases c5 : 0 ≤ a1
   ·rw [if_pos c5] at H
    have c5b0 := eq_true c5
    have c5b1 : decide (0 ≤ a1) = true := decide_eq_true c5
    clear c5
    by_cases c6 : a1 ≤ (wrap64 (a1 + 2))
    ·rw [if_pos c6] at H
     have c6b0 := eq_true c6
     have c6b1 : decide (a1 ≤ (wrap64 (a1 + 2))) = true := decide_eq_true c6
     by_cases c7 : (wrap64 (a1 + 2)) ≤ (a0.size : Int)
     ·rw [if_pos c7] at H
      have c7b0 := eq_true c7
      have c7b1 : decide ((wrap64 (a1 + 2)) ≤ (a0.size : Int)) = true := decide_eq_true c7
      by_cases c8 : (a0.extract (a1 : Int).toNat ((wrap64 (a1 + 2)) : Int).toNat).toList = ([45, 62] : List UInt8)
      ·rw [if_pos c8] at H
       have c8b0 : ((a0.extract (a1 : Int).toNat ((wrap64 (a1 + 2)) : Int).toNat).toList == ([45, 62] : List UInt8)) = true := beq_iff_eq.mpr c8
       have c8b1 : ((a0.extract (a1 : Int).toNat ((wrap64 (a1 + 2)) : Int).toNat).toList != ([45, 62] : List UInt8)) = false := bne_eq_false_iff_eq.mpr c8
       clear c8
       have H' := Aside0.mk H
       clear H
       go_wp2
       repeat (go_quiet (fail); try go_wp2)
       go_meet
       case rel => exact ⟨_, (true), (by first|rfl|(simp; done)|(simp [*]; done)), H', ⟨by first | omega|exact Nat.le_refl _⟩, by repeat (first|exact Drawn0.refl _|apply Drawn0.step)⟩
      ·rw [if_neg c8] at H
       have c8b0 : ((a0.extract (a1 : Int).toNat ((wrap64 (a1 + 2)) : Int).toNat).toList == ([45, 62] : List UInt8)) = false := beq_eq_false_iff_ne.mpr c8
       have c8b1 : ((a0.extract (a1 : Int).toNat ((wrap64 (a1 + 2)) : Int).toNat).toList != ([45, 62] : List UInt8)) = true := bne_iff_ne.mpr c8
       have c9b0 := eq_true (of_decide_eq_true (by first|(with_reducible assumption) | assumption) : 0 ≤ a1)
       have c10b0 := eq_true (of_decide_eq_true (by first|(with_reducible assumption) | assumption) : a1 ≤ (wrap64 (a1 + 2)))
       have c11b0 := eq_true (of_decide_eq_true (by first|(with_reducible assumption) | assumption) : (wrap64 (a1 + 2)) ≤ (a0.size : Int))
       have H' := Aside0.mk H
       clear H
       go_wp2
       repeat (go_quiet (fail); try go_wp2)
       go_meet
       case rel => exact ⟨_, (((a0.extract (a1 : Int).toNat ((wrap64 (a1 + 2)) : Int).toNat).toList == ([61, 61] : List UInt8))), (by first|rfl|(simp; done)|(simp [*]; done)), H', ⟨by first | omega|exact Nat.le_refl _⟩, by repeat (first|exact Drawn0.refl _|apply Drawn0.step)⟩
     ·rw [if_neg c7] at H
      exact absurd H (by simp)
    ·rw [if_neg c6] at H
     exact absurd H (by simp)
   ·rw [if_neg c5] at H
    exact absurd H (by simp)
  ·rw [if_neg c4] at H
   have c4b0 : decide ((wrap64 (a1 + 1)) < (a0.size : Int)) = false := decide_eq_false c4
   clear c4
   (first|rw [c4b0]|(simp only [i64_w, i32_w]; rw [c4b0]) | skip)
   have H' := Aside0.mk H
   clear H
   go_wp2
   repeat (go_quiet (fail); try go_wp2)
   go_meet
   case rel => exact ⟨_, (false), (by first|rfl|(simp; done)|(simp [*]; done)), H', ⟨by first | omega|exact Nat.le_refl _⟩, by repeat (first|exact Drawn0.refl _|apply Drawn0.step)⟩
 case rest =>
  clear HC3
  try clear c1
  try clear c2
  try clear p2
  try clear c4
  try clear c4b0
  try clear c5
  try clear c5b0
  try clear c5b1
  try clear c6
  try clear c6b0
  try clear c6b1
  try clear p6
  try clear c7
  try clear c7b0
  try clear c7b1
  try clear c8
  try clear c8b0
  try clear c8b1
  try clear c9
  try clear c9b0
  try clear c10
  try clear c10b0
  try clear c11
  try clear c11b0
  obtain ⟨kq, x26_2, rfl, HA, HJ2, ⟨mc2, rfl⟩⟩ := hcut
  cases kq with
  | zero => exact absurd HA.out (by simp [gossamerref01_sign.j0])
  | succ kj2 =>
   have H := HA.out
   clear HA
   simp only [gossamerref01_sign.j0] at H
   by_cases c12 : x26_2 = true
   ·subst c12
    have H1 : (some 2) = some r := by rw [if_pos rfl] at H; exact H
    clear H
    have H := H1
    clear H1
    obtain rfl := Option.some.inj H
    go_wp2
    repeat (go_quiet (fail); try go_wp2)
    go_ret
    exact ⟨by first|rfl|(simp; done)|(simp [*]; done), by repeat (first|exact Drawn0.refl _|apply Drawn0.step)⟩
   ·replace c12 := Bool.eq_false_iff.mpr c12
    subst c12
    have H1 : (gossamerref01_sign.l0 kj2 a0 a1 0) = some r := by rw [if_neg (show ¬ (false = true) by decide)] at H; exact H
    clear H
    have H := H1
    clear H1
    have H' := Aside0.mk H
    clear H
    go_wp2
    repeat (go_quiet (fail); try go_wp2)
    go_loopg [5] kj2 (fun kq v5 w' => ∃ (x5_2 : Int), v5 = .int .i64 x5_2 ∧ Aside0 (gossamerref01_sign.l0 kq a0 a1 x5_2 = some r) ∧ Aside0 (kq ≤ kj2) ∧ Drawn0 w w')
    case atStart => exact ⟨(0), (by first|rfl|(simp; done)|(simp [*]; done)), H', ⟨Nat.le_refl _⟩, by repeat (first|exact Drawn0.refl _|apply Drawn0.step)⟩
    case round =>
     clear H'
     try clear c1
     try clear c2
     try clear p2
     try clear c4
     try clear c4b0
     try clear c5
     try clear c5b0
     try clear c5b1
     try clear c6
     try clear c6b0
     try clear c6b1
     try clear p6
     try clear c7
     try clear c7b0
     try clear c7b1
     try clear c8
     try clear c8b0
     try clear c8b1
     try clear c9
     try clear c9b0
     try clear c10
     try clear c10b0
     try clear c11
     try clear c11b0
     try clear c12
     try clear p2
     try clear p6
     obtain ⟨x5_2, rfl, HA, HK2, ⟨m2, rfl⟩⟩ := hrel
     cases gk with
     | zero => exact absurd HA.out (by simp [gossamerref01_sign.l0])
     | succ k2 =>
      have H := HA.out
      clear HA
      simp only [gossamerref01_sign.l0] at H
      by_cases c13 : x5_2 < 13
      ·rw [if_pos c13] at H
       have c13b0 : decide (x5_2 < 13) = true := decide_eq_true c13
       clear c13
       by_cases c14 : 0 ≤ x5_2
       ·rw [if_pos c14] at H
        have c14b0 : decide (0 ≤ x5_2) = true := decide_eq_true c14
        clear c14
        by_cases c16 : 0 ≤ a1
        ·rw [if_pos c16] at H
         have c16b0 : decide (0 ≤ a1) = true := decide_eq_true c16
         clear c16
         by_cases c17 : a1 < (a0.size : Int)
         ·rw [if_pos c17] at H
          have c17b0 : decide (a1 < (a0.size : Int)) = true := decide_eq_true c17
          clear c17
          by_cases c19 : (bt (⟨#[92, 46, 40, 41, 61, 123, 125, 124, 43, 45, 42, 47, 60]⟩ : ByteArray) x5_2) = (bt a0 a1)
          ·rw [if_pos c19] at H
           have c19b0 : ((bt (⟨#[92, 46, 40, 41, 61, 123, 125, 124, 43, 45, 42, 47, 60]⟩ : ByteArray) x5_2) == (bt a0 a1)) = true := beq_iff_eq.mpr c19
           have c19b1 : ((bt (⟨#[92, 46, 40, 41, 61, 123, 125, 124, 43, 45, 42, 47, 60]⟩ : ByteArray) x5_2) != (bt a0 a1)) = false := bne_eq_false_iff_eq.mpr c19
           clear c19
           obtain rfl := Option.some.inj H
           have p15 : 0 ≤ (x5_2 : Int) := of_decide_eq_true (by first|(with_reducible assumption) | assumption)
           have q15 : x5_2 < (13 : Int) := of_decide_eq_true (by first|(with_reducible assumption) | assumption)
           have hx15 := bt_at (⟨#[92, 46, 40, 41, 61, 123, 125, 124, 43, 45, 42, 47, 60]⟩ : ByteArray) x5_2
           replace p15 := eq_true p15
           replace q15 := eq_true q15
           have p18 : 0 ≤ (a1 : Int) := of_decide_eq_true (by first|(with_reducible assumption) | assumption)
           have q18 : a1 < (a0.size : Int) := of_decide_eq_true (by first|(with_reducible assumption) | assumption)
           have hx18 := bt_at a0 a1
           replace p18 := eq_true p18
           replace q18 := eq_true q18
           go_wp2
           repeat (go_quiet (fail); try go_wp2)
           go_ret
           exact ⟨by first|rfl|(simp; done)|(simp [*]; done), by repeat (first|exact Drawn0.refl _|apply Drawn0.step)⟩
          ·rw [if_neg c19] at H
           have c19b0 : ((bt (⟨#[92, 46, 40, 41, 61, 123, 125, 124, 43, 45, 42, 47, 60]⟩ : ByteArray) x5_2) == (bt a0 a1)) = false := beq_eq_false_iff_ne.mpr c19
           have c19b1 : ((bt (⟨#[92, 46, 40, 41, 61, 123, 125, 124, 43, 45, 42, 47, 60]⟩ : ByteArray) x5_2) != (bt a0 a1)) = true := bne_iff_ne.mpr c19
           have H' := Aside0.mk H
           clear H
           have p15 : 0 ≤ (x5_2 : Int) := of_decide_eq_true (by first|(with_reducible assumption) | assumption)
           have q15 : x5_2 < (13 : Int) := of_decide_eq_true (by first|(with_reducible assumption) | assumption)
           have hx15 := bt_at (⟨#[92, 46, 40, 41, 61, 123, 125, 124, 43, 45, 42, 47, 60]⟩ : ByteArray) x5_2
           replace p15 := eq_true p15
           replace q15 := eq_true q15
           have p18 : 0 ≤ (a1 : Int) := of_decide_eq_true (by first|(with_reducible assumption) | assumption)
           have q18 : a1 < (a0.size : Int) := of_decide_eq_true (by first|(with_reducible assumption) | assumption)
           have hx18 := bt_at a0 a1
           replace p18 := eq_true p18
           replace q18 := eq_true q18
           go_wp2
           repeat (go_quiet (fail); try go_wp2)
           go_roundg k2
           case measure => have := HJ2.out; have := HK2.out; omega
           case rel => exact ⟨(wrap64 (x5_2 + 1)), (by first|rfl|(simp; done)|(simp [*]; done)), H', ⟨by have := HJ2.out; have := HK2.out; omega⟩, by repeat (first|exact Drawn0.refl _|apply Drawn0.step)⟩
         ·rw [if_neg c17] at H
          exact absurd H (by simp)
        ·rw [if_neg c16] at H
         exact absurd H (by simp)
       ·rw [if_neg c14] at H
        exact absurd H (by simp)
      ·rw [if_neg c13] at H
       have c13b0 : decide (x5_2 < 13) = false := decide_eq_false c13
       clear c13
       obtain rfl := Option.some.inj H
       go_wp2
       repeat (go_quiet (fail); try go_wp2)
       go_ret
       exact ⟨by first|rfl|(simp; done)|(simp [*]; done), by repeat (first|exact Drawn0.refl _|apply Drawn0.step)⟩

end Go.Proofs.YthdkjfhpbigdpaaDoor.Q

namespace Go.Proofs.YthdkjfhpbigdpaaDoor.Q
open Go.RowKit Go.Proofs.YthdkjfhpbigdpaaDoorW.PrintWords Go.Proofs.YthdkjfhpbigdpaaDoorW.PrintLast Go.Proofs.YthdkjfhpbigdpaaDoorW.PrintMore
attribute [local go_sem] max2_int min2_int max_two min_two max_three min_three max_four min_four
set_option linter.unusedVariables false
set_option linter.unusedSimpArgs false

def gossamerref01_number.l0 : Nat → ByteArray → Int → Int → Option (Int)
 | 0, _, _, _ => none
 | k + 1, x0, x3, x4 => if x4 < (x0.size : Int) then (if 0 ≤ x4 then (gossamerref01_number.l0 k x0 (wrap64 ((wrap64 ((wrap64 (10 * x3)) + (wrap64 (bt x0 x4)))) - 48)) (wrap64 (x4 + 1))) else (none)) else (some x3)
def gossamerref01_number.f (k : Nat) (a0 : ByteArray) : Option (Int) := gossamerref01_number.l0 k a0 0 0
theorem gossamerref01_number.mono_l : ∀ k, (∀ y0 y1 y2, LeO (gossamerref01_number.l0 k y0 y1 y2) (gossamerref01_number.l0 (k + 1) y0 y1 y2))
 | 0 => fun _ _ _ r h => by simp [gossamerref01_number.l0] at h
 | k + 1 => by
  have ih0 := gossamerref01_number.mono_l k
  ·intro y0 y1 y2
   unfold gossamerref01_number.l0
   repeat' first
  |(with_reducible exact ih0 _ _ _)
  |(with_reducible exact LeO.refl _)
  |(with_reducible exact LeO.none _)
  |(with_reducible refine LeO.ite ?_ ?_)
  |(with_reducible refine LeO.bind ?_ (fun _ => ?_))
  |exact ih0 _ _ _
  |exact LeO.none _
  |refine LeO.ite ?_ ?_
  |refine LeO.bind ?_ (fun _ => ?_)
theorem gossamerref01_number.mono : ∀ a0 k, LeO (gossamerref01_number.f k a0) (gossamerref01_number.f (k + 1) a0) := by
 intro a0 k
 have ih0 := gossamerref01_number.mono_l k
 unfold gossamerref01_number.f
 repeat' first
  |(with_reducible exact ih0 _ _ _)
  |(with_reducible exact LeO.refl _)
  |(with_reducible exact LeO.none _)
  |(with_reducible refine LeO.ite ?_ ?_)
  |(with_reducible refine LeO.bind ?_ (fun _ => ?_))
  |exact ih0 _ _ _
  |exact LeO.none _
  |refine LeO.ite ?_ ?_
  |refine LeO.bind ?_ (fun _ => ?_)
set_option maxHeartbeats 8000000 in
set_option maxRecDepth 100000 in
theorem gossamerref01_number.calls (k : Nat) (a0 : ByteArray) (r : Int) (w : World) (h : gossamerref01_number.f k a0 = some r) :
  Calls Tryd.prog 25 #[.string a0] w fun e w' => e = .returned (.int .i64 r) ∧ Drawn0 w w' := by
 have H : (gossamerref01_number.l0 k a0 0 0) = some r := h
 clear h
 have H' := Aside0.mk H
 clear H
 go_enter Tryd.func25, Tryd.ntmps25
 go_wp2
 go_loopg [3, 4] k (fun kq v3 v4 w' => ∃ (x3_1 : Int) (x4_1 : Int), v3 = .int .i64 x3_1 ∧ v4 = .int .i64 x4_1 ∧ Aside0 (gossamerref01_number.l0 kq a0 x3_1 x4_1 = some r) ∧ Aside0 (kq ≤ k) ∧ Drawn0 w w')
 case atStart => exact ⟨(0), (0), (by first|rfl|(simp; done)|(simp [*]; done)), (by first|rfl|(simp; done)|(simp [*]; done)), H', ⟨Nat.le_refl _⟩, by repeat (first|exact Drawn0.refl _|apply Drawn0.step)⟩
 case round =>
  clear H'
  obtain ⟨x3_1, x4_1, rfl, rfl, HA, HK1, ⟨m1, rfl⟩⟩ := hrel
  cases gk with
  | zero => exact absurd HA.out (by simp [gossamerref01_number.l0])
  | succ k1 =>
   have H := HA.out
   clear HA
   simp only [gossamerref01_number.l0] at H
   by_cases c2 : x4_1 < (a0.size : Int)
   ·rw [if_pos c2] at H
    have c2b0 : decide (x4_1 < (a0.size : Int)) = true := decide_eq_true c2
    clear c2
    by_cases c3 : 0 ≤ x4_1
    ·rw [if_pos c3] at H
     have c3b0 : decide (0 ≤ x4_1) = true := decide_eq_true c3
     clear c3
     have H' := Aside0.mk H
     clear H
     have p4 : 0 ≤ (x4_1 : Int) := of_decide_eq_true (by first|(with_reducible assumption) | assumption)
     have q4 : x4_1 < (a0.size : Int) := of_decide_eq_true (by first|(with_reducible assumption) | assumption)
     have hx4 := bt_at a0 x4_1
     replace p4 := eq_true p4
     replace q4 := eq_true q4
     go_wp2
     go_roundg k1
     case measure => have := HK1.out; omega
     case rel => exact ⟨(wrap64 ((wrap64 ((wrap64 (10 * x3_1)) + (wrap64 (bt a0 x4_1)))) - 48)), (wrap64 (x4_1 + 1)), (by first|rfl|(simp; done)|(simp [*]; done)), (by first|rfl|(simp; done)|(simp [*]; done)), H', ⟨by have := HK1.out; omega⟩, by repeat (first|exact Drawn0.refl _|apply Drawn0.step)⟩
    ·rw [if_neg c3] at H
     exact absurd H (by simp)
   ·rw [if_neg c2] at H
    have c2b0 : decide (x4_1 < (a0.size : Int)) = false := decide_eq_false c2
    clear c2
    obtain rfl := Option.some.inj H
    go_wp2
    go_ret
    exact ⟨by first|rfl|(simp; done)|(simp [*]; done), by repeat (first|exact Drawn0.refl _|apply Drawn0.step)⟩

end Go.Proofs.YthdkjfhpbigdpaaDoor.Q

namespace Go.Proofs.YthdkjfhpbigdpaaDoor.Q
open Go.RowKit Go.Proofs.YthdkjfhpbigdpaaDoorW.PrintWords Go.Proofs.YthdkjfhpbigdpaaDoorW.PrintLast Go.Proofs.YthdkjfhpbigdpaaDoorW.PrintMore
attribute [local go_sem] max2_int min2_int max_two min_two max_three min_three max_four min_four
set_option linter.unusedVariables false
set_option linter.unusedSimpArgs false

def gossamerref01_Word.f (a0 : ByteArray) : Option (Bool) := if a0.toList = ([108, 101, 116] : List UInt8) then (some true) else (if a0.toList = ([108, 101, 116, 114, 101, 99] : List UInt8) then (some true) else (if a0.toList = ([105, 110] : List UInt8) then (some true) else (if a0.toList = ([99, 97, 115, 101] : List UInt8) then (some true) else (some (a0.toList == ([111, 102] : List UInt8))))))
set_option maxHeartbeats 8000000 in
set_option maxRecDepth 100000 in
theorem gossamerref01_Word.calls (a0 : ByteArray) (r : Bool) (w : World) (h : gossamerref01_Word.f a0 = some r) :
  Calls Tryd.prog 26 #[.string a0] w fun e w' => e = .returned (.bool r) ∧ Drawn0 w w' := by
 have H : (if a0.toList = ([108, 101, 116] : List UInt8) then (some true) else (if a0.toList = ([108, 101, 116, 114, 101, 99] : List UInt8) then (some true) else (if a0.toList = ([105, 110] : List UInt8) then (some true) else (if a0.toList = ([99, 97, 115, 101] : List UInt8) then (some true) else (some (a0.toList == ([111, 102] : List UInt8))))))) = some r := h
 clear h
 by_cases c2 : a0.toList = ([108, 101, 116] : List UInt8)
 ·rw [if_pos c2] at H
  have c2b0 : (a0.toList == ([108, 101, 116] : List UInt8)) = true := beq_iff_eq.mpr c2
  have c2b1 : (a0.toList != ([108, 101, 116] : List UInt8)) = false := bne_eq_false_iff_eq.mpr c2
  clear c2
  obtain rfl := Option.some.inj H
  go_enter Tryd.func26, Tryd.ntmps26
  go_wp2
  go_ret
  exact ⟨by first|rfl|(simp; done)|(simp [*]; done), by repeat (first|exact Drawn0.refl _|apply Drawn0.step)⟩
 ·rw [if_neg c2] at H
  have c2b0 : (a0.toList == ([108, 101, 116] : List UInt8)) = false := beq_eq_false_iff_ne.mpr c2
  have c2b1 : (a0.toList != ([108, 101, 116] : List UInt8)) = true := bne_iff_ne.mpr c2
  by_cases c3 : a0.toList = ([108, 101, 116, 114, 101, 99] : List UInt8)
  ·rw [if_pos c3] at H
   have c3b0 : (a0.toList == ([108, 101, 116, 114, 101, 99] : List UInt8)) = true := beq_iff_eq.mpr c3
   have c3b1 : (a0.toList != ([108, 101, 116, 114, 101, 99] : List UInt8)) = false := bne_eq_false_iff_eq.mpr c3
   clear c3
   obtain rfl := Option.some.inj H
   go_enter Tryd.func26, Tryd.ntmps26
   go_wp2
   go_ret
   exact ⟨by first|rfl|(simp; done)|(simp [*]; done), by repeat (first|exact Drawn0.refl _|apply Drawn0.step)⟩
  ·rw [if_neg c3] at H
   have c3b0 : (a0.toList == ([108, 101, 116, 114, 101, 99] : List UInt8)) = false := beq_eq_false_iff_ne.mpr c3
   have c3b1 : (a0.toList != ([108, 101, 116, 114, 101, 99] : List UInt8)) = true := bne_iff_ne.mpr c3
   by_cases c4 : a0.toList = ([105, 110] : List UInt8)
   ·rw [if_pos c4] at H
    have c4b0 : (a0.toList == ([105, 110] : List UInt8)) = true := beq_iff_eq.mpr c4
    have c4b1 : (a0.toList != ([105, 110] : List UInt8)) = false := bne_eq_false_iff_eq.mpr c4
    clear c4
    obtain rfl := Option.some.inj H
    go_enter Tryd.func26, Tryd.ntmps26
    go_wp2
    go_ret
    exact ⟨by first|rfl|(simp; done)|(simp [*]; done), by repeat (first|exact Drawn0.refl _|apply Drawn0.step)⟩
   ·rw [if_neg c4] at H
    have c4b0 : (a0.toList == ([105, 110] : List UInt8)) = false := beq_eq_false_iff_ne.mpr c4
    have c4b1 : (a0.toList != ([105, 110] : List UInt8)) = true := bne_iff_ne.mpr c4
    by_cases c5 : a0.toList = ([99, 97, 115, 101] : List UInt8)
    ·rw [if_pos c5] at H
     have c5b0 : (a0.toList == ([99, 97, 115, 101] : List UInt8)) = true := beq_iff_eq.mpr c5
     have c5b1 : (a0.toList != ([99, 97, 115, 101] : List UInt8)) = false := bne_eq_false_iff_eq.mpr c5
     clear c5
     obtain rfl := Option.some.inj H
     go_enter Tryd.func26, Tryd.ntmps26
     go_wp2
     go_ret
     exact ⟨by first|rfl|(simp; done)|(simp [*]; done), by repeat (first|exact Drawn0.refl _|apply Drawn0.step)⟩
    ·rw [if_neg c5] at H
     have c5b0 : (a0.toList == ([99, 97, 115, 101] : List UInt8)) = false := beq_eq_false_iff_ne.mpr c5
     have c5b1 : (a0.toList != ([99, 97, 115, 101] : List UInt8)) = true := bne_iff_ne.mpr c5
     obtain rfl := Option.some.inj H
     go_enter Tryd.func26, Tryd.ntmps26
     go_wp2
     go_ret
     exact ⟨by first|rfl|(simp; done)|(simp [*]; done), by repeat (first|exact Drawn0.refl _|apply Drawn0.step)⟩

end Go.Proofs.YthdkjfhpbigdpaaDoor.Q

/- Plain Lean: the tokens of a text, as a function on its bytes. No program in sight. -/
namespace Go.Proofs.YthdkjfhpbigdpaaDoor.HLex

def lower (c : UInt8) : Bool := decide (97 ≤ c.toNat) && decide (c.toNat ≤ 122)
def upper (c : UInt8) : Bool := decide (65 ≤ c.toNat) && decide (c.toNat ≤ 90)
def digit (c : UInt8) : Bool := decide (48 ≤ c.toNat) && decide (c.toNat ≤ 57)
def wordly (c : UInt8) : Bool := lower c || upper c || digit c
def blank (c : UInt8) : Bool := c == 32 || c == 10 || c == 9

def words : List (List UInt8) := [[108, 101, 116], [108, 101, 116, 114, 101, 99], [105, 110], [99, 97, 115, 101], [111, 102]]
def isWord (l : List UInt8) : Bool := words.contains l

def signs : List (List UInt8) := [[45, 62], [61, 61], [92], [46], [40], [41], [61], [123], [125], [124], [43], [45], [42], [47], [60]]

def num (l : List UInt8) : Nat := l.foldl (fun n c => 10 * n + (c.toNat - 48)) 0

structure Tok where
 kind : Nat
 text : List UInt8
 n : Nat
 pos : Nat
deriving DecidableEq, Repr

def named (w : List UInt8) : Except Nat (Nat × Nat) :=
 if (w.head?.map digit).getD false then
  if w.any (fun c => decide (57 < c.toNat)) then .error 10
  else if 18 < w.length ∨ 1 < w.length ∧ w.head? = some 48 then .error 11
  else .ok (3, num w)
 else if 16 < w.length then .error 11
 else if isWord w then .ok (4, 0)
 else if (w.head?.map upper).getD false then .ok (2, 0)
 else .ok (1, 0)

def first (l : List UInt8) : Except Nat (Nat × List UInt8 × Nat) :=
 let w := l.takeWhile wordly
 if w = [] then
  match signs.find? (fun s => s.isPrefixOf l) with
  | some s => .ok (5, s, 0)
  | none => .error 10
 else match named w with
  | .ok (k, n) => .ok (k, w, n)
  | .error e => .error e

def lexFrom : Nat → Nat → List UInt8 → Except (Nat × Nat) (List Tok)
 | 0, _, _ => .ok []
 | f + 1, pos, l =>
  let r := l.dropWhile blank
  let p := pos + (l.length - r.length)
  if r = [] then .ok []
  else match first r with
   | .error e => .error (p, e)
   | .ok (k, t, n) => match lexFrom f (p + t.length) (r.drop t.length) with
    | .ok ts => .ok (⟨k, t, n, p⟩ :: ts)
    | .error e => .error e

def lex (l : List UInt8) : Except (Nat × Nat) (List Tok) := lexFrom (l.length + 1) 0 l

end Go.Proofs.YthdkjfhpbigdpaaDoor.HLex

/- Plain Lean: what the library's functions say (the shelf's own words), in the words of HLex. -/
namespace Go.Proofs.YthdkjfhpbigdpaaDoor.HLex
open Go

theorem drop_cons_get (s : ByteArray) (i : Nat) (h : i < s.size) : s.data.toList.drop i = s[i] :: s.data.toList.drop (i + 1) := by
 have h' : i < s.data.toList.length := by simpa using h
 rw [List.drop_eq_getElem_cons h']
 rfl

theorem idxFrom (p : Nat → Bool) (q : UInt8 → Bool) (h1 : ∀ c : UInt8, c.toNat < 128 → p c.toNat = q c) (h2 : ∀ c : UInt8, 128 ≤ c.toNat → q c = true) (h3 : ∀ r, 128 ≤ r → p r = true) (s : ByteArray) :
  ∀ (f pos : Nat), pos ≤ s.size → s.size - pos ≤ f →
   Lib.idxFuncFrom p true s f pos = if pos + ((s.data.toList.drop pos).takeWhile (fun c => !q c)).length < s.size then ((pos + ((s.data.toList.drop pos).takeWhile (fun c => !q c)).length : Nat) : Int) else -1 := by
 intro f
 induction f with
 | zero =>
  intro pos hp hf
  have : pos = s.size := by omega
  rw [if_neg (by omega)]
  rfl
 | succ f ih =>
  intro pos hp hf
  unfold Lib.idxFuncFrom
  by_cases hlt : pos < s.size
  ·rw [if_pos hlt, drop_cons_get s pos hlt, List.takeWhile_cons]
   by_cases ha : (s[pos]).toNat < 128
   ·rw [decode_ascii s pos hlt ha, h1 _ ha]
    by_cases hq : q s[pos] = true
    ·rw [if_pos hq, hq]; simp [hlt]
    ·have hq' : q s[pos] = false := by simpa using hq
     rw [if_neg hq, hq', ih (pos + 1) (by omega) (by omega)]
     simp only [Bool.not_false, if_true, List.length_cons]
     rw [show pos + 1 + (List.takeWhile (fun c => !q c) (List.drop (pos + 1) s.data.toList)).length = pos + ((List.takeWhile (fun c => !q c) (List.drop (pos + 1) s.data.toList)).length + 1) from by omega]
   ·have hd := decode_high s pos hlt (by omega)
    rw [h3 _ hd.1, if_pos rfl, h2 _ (by omega)]
    simp [hlt]
  ·rw [if_neg hlt]
   have : pos = s.size := by omega
   rw [if_neg (by omega)]

theorem takeWhile_len_le (q : UInt8 → Bool) (l : List UInt8) : (l.takeWhile q).length ≤ l.length := by
 induction l with
 | nil => simp
 | cons a t ih => rw [List.takeWhile_cons]; split <;> simp <;> omega

theorem takeWhile_take (q : UInt8 → Bool) (l : List UInt8) : l.take (l.takeWhile q).length = l.takeWhile q := by
 induction l with
 | nil => simp
 | cons a t ih => rw [List.takeWhile_cons]; split <;> simp [ih]

theorem takeWhile_all {q : UInt8 → Bool} {l : List UInt8} (h : (l.takeWhile q).length = l.length) : l.takeWhile q = l := by
 have := takeWhile_take q l
 rw [h, List.take_length] at this
 exact this.symm

def pRun (r : Nat) : Bool := decide (127 < r) || !(decide (97 ≤ r) && decide (r ≤ 122) || decide (65 ≤ r) && decide (r ≤ 90) || decide (48 ≤ r) && decide (r ≤ 57))
theorem idx_run (s : ByteArray) : Lib.idxFunc pRun true s = if (s.data.toList.takeWhile wordly).length < s.size then ((s.data.toList.takeWhile wordly).length : Int) else -1 := by
 have h := idxFrom pRun (fun c => !wordly c) ?_ ?_ ?_ s s.size 0 (Nat.zero_le _) (by omega)
 ·unfold Lib.idxFunc
  simpa using h
 ·intro c hc
  unfold pRun wordly lower upper digit
  have : decide (127 < c.toNat) = false := by simp; omega
  rw [this]; simp
 ·intro c hc
  unfold wordly lower upper digit
  have e1 : decide (c.toNat ≤ 122) = false := by simp; omega
  have e2 : decide (c.toNat ≤ 90) = false := by simp; omega
  have e3 : decide (c.toNat ≤ 57) = false := by simp; omega
  simp [e1, e2, e3]
 ·intro r hr
  unfold pRun
  have : decide (127 < r) = true := by simp; omega
  simp [this]

def pBig (r : Nat) : Bool := decide (57 < r)
theorem takeWhile_any (q : UInt8 → Bool) (l : List UInt8) : (l.takeWhile (fun c => !q c)).length < l.length ↔ l.any q = true := by
 induction l with
 | nil => simp
 | cons a t ih =>
  rw [List.takeWhile_cons, List.any_cons]
  cases h : q a <;> simp [ih]
theorem idx_big (s : ByteArray) : decide (0 ≤ Lib.idxFunc pBig true s) = s.data.toList.any (fun c => decide (57 < c.toNat)) := by
 have h := idxFrom pBig (fun c => decide (57 < c.toNat)) (fun _ _ => rfl) (fun c hc => decide_eq_true (by omega)) (fun r hr => decide_eq_true (by omega)) s s.size 0 (Nat.zero_le _) (by omega)
 have e : Lib.idxFunc pBig true s = _ := h
 rw [e]
 have ha := takeWhile_any (fun c => decide (57 < c.toNat)) s.data.toList
 have hs : s.data.toList.length = s.size := Array.length_toList
 simp only [List.drop_zero, Nat.zero_add]
 by_cases hb : s.data.toList.any (fun c => decide (57 < c.toNat)) = true
 ·rw [if_pos (by rw [← hs]; exact ha.2 hb), hb]; exact decide_eq_true (Int.natCast_nonneg _)
 ·rw [if_neg (by rw [← hs]; exact fun z => hb (ha.1 z))]
  have : s.data.toList.any (fun c => decide (57 < c.toNat)) = false := by simpa using hb
  rw [this]; simp

theorem trim_blank (l : List UInt8) : Lib.trimLeftS l [32, 10, 9] = l.dropWhile blank := by
 unfold Lib.trimLeftS
 congr 1
 funext c
 unfold blank
 rw [List.contains_cons, List.contains_cons, List.contains_cons, List.contains_nil, Bool.or_false, Bool.or_assoc]

theorem decFrom_num (l : List UInt8) : ∀ acc, (∀ c ∈ l, digit c = true) → Lib.decFrom acc l = some (l.foldl (fun n c => 10 * n + (c.toNat - 48)) acc) := by
 induction l with
 | nil => intro acc _; rfl
 | cons a t ih =>
  intro acc h
  have ha := h a (List.mem_cons_self ..)
  unfold digit at ha
  simp at ha
  unfold Lib.decFrom Lib.digitVal
  rw [if_pos ⟨ha.1, ha.2⟩]
  simp only [List.foldl_cons]
  rw [ih _ (fun c hc => h c (List.mem_cons_of_mem _ hc)), Nat.mul_comm]

theorem atoi_num (l : List UInt8) (hne : l ≠ []) (h : ∀ c ∈ l, digit c = true) : Lib.atoi l = some (num l : Int) := by
 cases l with
 | nil => exact absurd rfl hne
 | cons a t =>
  have ha := h a (List.mem_cons_self ..)
  unfold digit at ha
  simp at ha
  unfold Lib.atoi
  have e1 : (a == 45) = false := by
   apply beq_eq_false_iff_ne.2; rintro rfl; simp at ha
  have e2 : (a == 43) = false := by
   apply beq_eq_false_iff_ne.2; rintro rfl; simp at ha
  simp only [e1, e2, Bool.false_eq_true, if_false, Lib.decNat, List.isEmpty_cons]
  rw [decFrom_num _ 0 h]
  rfl

theorem first_prefix {l t : List UInt8} {k n : Nat} (h : first l = .ok (k, t, n)) : t <+: l ∧ t ≠ [] := by
 unfold first at h
 simp only at h
 split at h
 ·split at h
  ·rename_i s hs
   injection h with h
   injection h with h1 h2
   injection h2 with h2 h3
   subst h2
   refine ⟨by have := List.find?_some hs; simpa using this, ?_⟩
   have hm := List.mem_of_find?_eq_some hs
   rintro rfl
   exact absurd hm (by decide)
  ·cases h
 ·rename_i hne
  split at h
  ·injection h with h
   injection h with h1 h2
   injection h2 with h2 h3
   subst h2
   exact ⟨List.takeWhile_prefix _, hne⟩
  ·cases h

end Go.Proofs.YthdkjfhpbigdpaaDoor.HLex

/- The shelf's contracts at this translation, in plain words: each one application. -/
namespace Go.Proofs
open Go.Shelf
def Tryd.lays172_ren : Go.Shelf.Ren := ⟨fun | 172 => 67 | 244 => 72 | 245 => 73 | 247 => 78 | 279 => 79 | 280 => 80 | 281 => 81 | 282 => 82 | 287 => 84 | 316 => 85 | 171 => 87 | 205 => 86 | 321 => 89 | 322 => 90 | 243 => 91 | 246 => 92 | 283 => 93 | 284 => 94 | 285 => 95 | 286 => 96 | 129 => 98 | 317 => 97 | 318 => 99 | 319 => 100 | 320 => 101 | 337 => 102 | 338 => 103 | n => n, fun | 9 => 9 | 3 => 3 | 75 => 104 | 76 => 105 | 4 => 4 | 5 => 5 | 167 => 118 | 37 => 119 | 0 => 0 | 85 => 120 | 2 => 2 | 168 => 122 | 53 => 125 | 175 => 126 | 46 => 108 | 210 => 130 | 127 => 134 | 145 => 137 | 143 => 135 | 21 => 21 | 171 => 139 | 173 => 142 | 212 => 145 | 51 => 72 | 20 => 20 | 213 => 146 | 232 => 150 | 233 => 151 | 80 => 152 | n => n, fun | 15 => 5 | 16 => 6 | 17 => 7 | 18 => 8 | 19 => 9 | n => n⟩
theorem Tryd.lays172 : Go.Proofs.Lays.n172 Tryd.prog Tryd.lays172_ren := {
 mixed := by kernel_rfl
 f129 := Tryd.func98.trans (congrArg some (by kernel_rfl))
 f171 := Tryd.func87.trans (congrArg some (by kernel_rfl))
 f172 := Tryd.func67.trans (congrArg some (by kernel_rfl))
 f205 := Tryd.func86.trans (congrArg some (by kernel_rfl))
 f243 := Tryd.func91.trans (congrArg some (by kernel_rfl))
 f244 := Tryd.func72.trans (congrArg some (by kernel_rfl))
 f245 := Tryd.func73.trans (congrArg some (by kernel_rfl))
 f246 := Tryd.func92.trans (congrArg some (by kernel_rfl))
 f247 := Tryd.func78.trans (congrArg some (by kernel_rfl))
 f279 := Tryd.func79.trans (congrArg some (by kernel_rfl))
 f280 := Tryd.func80.trans (congrArg some (by kernel_rfl))
 f281 := Tryd.func81.trans (congrArg some (by kernel_rfl))
 f282 := Tryd.func82.trans (congrArg some (by kernel_rfl))
 f283 := Tryd.func93.trans (congrArg some (by kernel_rfl))
 f284 := Tryd.func94.trans (congrArg some (by kernel_rfl))
 f285 := Tryd.func95.trans (congrArg some (by kernel_rfl))
 f286 := Tryd.func96.trans (congrArg some (by kernel_rfl))
 f287 := Tryd.func84.trans (congrArg some (by kernel_rfl))
 f316 := Tryd.func85.trans (congrArg some (by kernel_rfl))
 f317 := Tryd.func97.trans (congrArg some (by kernel_rfl))
 f318 := Tryd.func99.trans (congrArg some (by kernel_rfl))
 f319 := Tryd.func100.trans (congrArg some (by kernel_rfl))
 f320 := Tryd.func101.trans (congrArg some (by kernel_rfl))
 f321 := Tryd.func89.trans (congrArg some (by kernel_rfl))
 f322 := Tryd.func90.trans (congrArg some (by kernel_rfl))
 f337 := Tryd.func102.trans (congrArg some (by kernel_rfl))
 f338 := Tryd.func103.trans (congrArg some (by kernel_rfl))
 t0 := Tryd.underlying0
 a0 := Tryd.isAgg0
 z0 := Tryd.sizeOf0
 v0 := Tryd.zeroValue0
 t2 := Tryd.underlying2
 a2 := Tryd.isAgg2
 z2 := Tryd.sizeOf2
 v2 := Tryd.zeroValue2
 t3 := Tryd.underlying3
 a3 := Tryd.isAgg3
 z3 := Tryd.sizeOf3
 v3 := Tryd.zeroValue3
 t4 := Tryd.underlying4
 a4 := Tryd.isAgg4
 z4 := Tryd.sizeOf4
 v4 := Tryd.zeroValue4
 t5 := Tryd.underlying5
 a5 := Tryd.isAgg5
 z5 := Tryd.sizeOf5
 v5 := Tryd.zeroValue5
 t9 := Tryd.underlying9
 a9 := Tryd.isAgg9
 z9 := Tryd.sizeOf9
 v9 := Tryd.zeroValue9
 t20 := Tryd.underlying20
 a20 := Tryd.isAgg20
 z20 := Tryd.sizeOf20
 v20 := Tryd.zeroValue20
 t21 := Tryd.underlying21
 a21 := Tryd.isAgg21
 z21 := Tryd.sizeOf21
 v21 := Tryd.zeroValue21
 t37 := Tryd.underlying119
 a37 := Tryd.isAgg119
 z37 := Tryd.sizeOf119
 v37 := Tryd.zeroValue119
 t46 := Tryd.underlying108
 a46 := Tryd.isAgg108
 z46 := Tryd.sizeOf108
 v46 := Tryd.zeroValue108
 t51 := Tryd.underlying72
 a51 := Tryd.isAgg72
 z51 := Tryd.sizeOf72
 v51 := Tryd.zeroValue72
 t53 := Tryd.underlying125
 a53 := Tryd.isAgg125
 z53 := Tryd.sizeOf125
 v53 := Tryd.zeroValue125
 t75 := Tryd.underlying104
 a75 := Tryd.isAgg104
 z75 := Tryd.sizeOf104
 v75 := Tryd.zeroValue104
 t76 := Tryd.underlying105
 a76 := Tryd.isAgg105
 z76 := Tryd.sizeOf105
 v76 := Tryd.zeroValue105
 t85 := Tryd.underlying120
 a85 := Tryd.isAgg120
 z85 := Tryd.sizeOf120
 v85 := Tryd.zeroValue120
 t127 := Tryd.underlying134
 a127 := Tryd.isAgg134
 z127 := Tryd.sizeOf134
 v127 := Tryd.zeroValue134
 t143 := Tryd.underlying135
 a143 := Tryd.isAgg135
 z143 := Tryd.sizeOf135
 v143 := Tryd.zeroValue135
 t145 := Tryd.underlying137
 a145 := Tryd.isAgg137
 z145 := Tryd.sizeOf137
 v145 := Tryd.zeroValue137
 t167 := Tryd.underlying118
 a167 := Tryd.isAgg118
 z167 := Tryd.sizeOf118
 v167 := Tryd.zeroValue118
 t168 := Tryd.underlying122
 a168 := Tryd.isAgg122
 z168 := Tryd.sizeOf122
 v168 := Tryd.zeroValue122
 t171 := Tryd.underlying139
 a171 := Tryd.isAgg139
 z171 := Tryd.sizeOf139
 v171 := Tryd.zeroValue139
 t173 := Tryd.underlying142
 a173 := Tryd.isAgg142
 z173 := Tryd.sizeOf142
 v173 := Tryd.zeroValue142
 t175 := Tryd.underlying126
 a175 := Tryd.isAgg126
 z175 := Tryd.sizeOf126
 v175 := Tryd.zeroValue126
 t210 := Tryd.underlying130
 a210 := Tryd.isAgg130
 z210 := Tryd.sizeOf130
 v210 := Tryd.zeroValue130
 t212 := Tryd.underlying145
 a212 := Tryd.isAgg145
 z212 := Tryd.sizeOf145
 v212 := Tryd.zeroValue145
 t213 := Tryd.underlying146
 a213 := Tryd.isAgg146
 z213 := Tryd.sizeOf146
 t232 := Tryd.underlying150
 a232 := Tryd.isAgg150
 z232 := Tryd.sizeOf150
 v232 := Tryd.zeroValue150
 t233 := Tryd.underlying151
 a233 := Tryd.isAgg151
 z233 := Tryd.sizeOf151
 v233 := Tryd.zeroValue151
 g15 := by kernel_rfl
 g16 := by kernel_rfl
 g17 := by kernel_rfl
 g18 := by kernel_rfl
 g19 := by kernel_rfl }
open Go.RowKit in
theorem Tryd.strconv_Atoi (s : ByteArray) (n : Int) (hl : s.size ≤ 18) (h : Lib.atoi s.data.toList = some n) (w : World) :
  Calls Tryd.prog 67 #[.string s] w fun e w' => e = .returned (.tuple #[.int .i64 n, .nilIface]) ∧ ∃ t, w' = Lib.bytesWorld w 5 t := Any.strconv_Atoi Tryd.lays172 s n hl h w
def Tryd.laysGw15_ren : Go.Shelf.Ren := ⟨fun | 15 => 50 | 20 => 61 | n => n, fun | 9 => 9 | 23 => 63 | 3 => 3 | 4 => 4 | 0 => 0 | 21 => 21 | n => n, fun | n => n⟩
theorem Tryd.laysGw15 : Go.Proofs.LaysGw.n15 Tryd.prog Tryd.laysGw15_ren := {
 mixed := by kernel_rfl
 f15 := Tryd.func50.trans (congrArg some (by kernel_rfl))
 f20 := Tryd.func61.trans (congrArg some (by kernel_rfl))
 t0 := Tryd.underlying0
 a0 := Tryd.isAgg0
 z0 := Tryd.sizeOf0
 v0 := Tryd.zeroValue0
 i0 := by kernel_rfl
 t3 := Tryd.underlying3
 a3 := Tryd.isAgg3
 z3 := Tryd.sizeOf3
 v3 := Tryd.zeroValue3
 i3 := by kernel_rfl
 t4 := Tryd.underlying4
 a4 := Tryd.isAgg4
 z4 := Tryd.sizeOf4
 v4 := Tryd.zeroValue4
 i4 := by kernel_rfl
 t9 := Tryd.underlying9
 a9 := Tryd.isAgg9
 z9 := Tryd.sizeOf9
 v9 := Tryd.zeroValue9
 i9 := by kernel_rfl
 t21 := Tryd.underlying21
 a21 := Tryd.isAgg21
 z21 := Tryd.sizeOf21
 v21 := Tryd.zeroValue21
 i21 := by kernel_rfl
 t23 := Tryd.underlying63
 a23 := Tryd.isAgg63
 z23 := Tryd.sizeOf63
 v23 := Tryd.zeroValue63
 i23 := by kernel_rfl }
open Go.RowKit Go.Lib in
theorem Tryd.strings_IndexFunc (g : Nat) (lb : Array Value) (eg : ∀ args w, (callFunc g args).run Tryd.prog w = .ok (.enter g args) w) (p : Nat → Bool) (s : ByteArray) (w : World) (hp : PredAt Tryd.prog g lb encR p w) :
  Calls Tryd.prog 50 #[.string s, .func (.func g) #[] lb] w fun e w' => e = .returned (.int .i64 (Lib.idxFunc p true s)) ∧ Below w.heap.size w w' := Any.strings_IndexFunc Tryd.laysGw15 g lb eg p s w hp
def Tryd.laysGw17_ren : Go.Shelf.Ren := ⟨fun | 17 => 65 | 15 => 50 | 20 => 61 | n => n, fun | 9 => 9 | 23 => 63 | 4 => 4 | 3 => 3 | 0 => 0 | 21 => 21 | n => n, fun | n => n⟩
theorem Tryd.laysGw17 : Go.Proofs.LaysGw.n17 Tryd.prog Tryd.laysGw17_ren := {
 mixed := by kernel_rfl
 f15 := Tryd.func50.trans (congrArg some (by kernel_rfl))
 f17 := Tryd.func65.trans (congrArg some (by kernel_rfl))
 f20 := Tryd.func61.trans (congrArg some (by kernel_rfl))
 t0 := Tryd.underlying0
 a0 := Tryd.isAgg0
 z0 := Tryd.sizeOf0
 v0 := Tryd.zeroValue0
 i0 := by kernel_rfl
 t3 := Tryd.underlying3
 a3 := Tryd.isAgg3
 z3 := Tryd.sizeOf3
 v3 := Tryd.zeroValue3
 i3 := by kernel_rfl
 t4 := Tryd.underlying4
 a4 := Tryd.isAgg4
 z4 := Tryd.sizeOf4
 v4 := Tryd.zeroValue4
 i4 := by kernel_rfl
 t9 := Tryd.underlying9
 a9 := Tryd.isAgg9
 z9 := Tryd.sizeOf9
 v9 := Tryd.zeroValue9
 i9 := by kernel_rfl
 t21 := Tryd.underlying21
 a21 := Tryd.isAgg21
 z21 := Tryd.sizeOf21
 v21 := Tryd.zeroValue21
 i21 := by kernel_rfl
 t23 := Tryd.underlying63
 a23 := Tryd.isAgg63
 z23 := Tryd.sizeOf63
 v23 := Tryd.zeroValue63
 i23 := by kernel_rfl }
open Go.RowKit Go.Lib in
theorem Tryd.strings_ContainsFunc (g : Nat) (lb : Array Value) (eg : ∀ args w, (callFunc g args).run Tryd.prog w = .ok (.enter g args) w) (p : Nat → Bool) (s : ByteArray) (w : World) (hp : PredAt Tryd.prog g lb encR p w) :
  Calls Tryd.prog 65 #[.string s, .func (.func g) #[] lb] w fun e w' => e = .returned (.bool (decide (0 ≤ Lib.idxFunc p true s))) ∧ Below w.heap.size w w' := Any.strings_ContainsFunc Tryd.laysGw17 g lb eg p s w hp
def Tryd.lays157_ren : Go.Shelf.Ren := ⟨fun | 157 => 36 | 229 => 40 | 199 => 41 | 261 => 45 | 311 => 56 | 312 => 57 | n => n, fun | 9 => 9 | 31 => 55 | 3 => 3 | 5 => 5 | 4 => 4 | 119 => 61 | 0 => 0 | 40 => 63 | 152 => 69 | 21 => 21 | 154 => 71 | 51 => 72 | 141 => 74 | 196 => 90 | 193 => 87 | 198 => 93 | 49 => 91 | 194 => 88 | 201 => 96 | 226 => 107 | 46 => 108 | 227 => 109 | n => n, fun | 0 => 0 | 6 => 1 | n => n⟩
theorem Tryd.lays157 : Go.Proofs.Lays.n157 Tryd.prog Tryd.lays157_ren := {
 mixed := by kernel_rfl
 f157 := Tryd.func36.trans (congrArg some (by kernel_rfl))
 f199 := Tryd.func41.trans (congrArg some (by kernel_rfl))
 f229 := Tryd.func40.trans (congrArg some (by kernel_rfl))
 f261 := Tryd.func45.trans (congrArg some (by kernel_rfl))
 f311 := Tryd.func56.trans (congrArg some (by kernel_rfl))
 f312 := Tryd.func57.trans (congrArg some (by kernel_rfl))
 t0 := Tryd.underlying0
 a0 := Tryd.isAgg0
 z0 := Tryd.sizeOf0
 v0 := Tryd.zeroValue0
 t3 := Tryd.underlying3
 a3 := Tryd.isAgg3
 z3 := Tryd.sizeOf3
 v3 := Tryd.zeroValue3
 t4 := Tryd.underlying4
 a4 := Tryd.isAgg4
 z4 := Tryd.sizeOf4
 v4 := Tryd.zeroValue4
 t5 := Tryd.underlying5
 a5 := Tryd.isAgg5
 z5 := Tryd.sizeOf5
 v5 := Tryd.zeroValue5
 t9 := Tryd.underlying9
 a9 := Tryd.isAgg9
 z9 := Tryd.sizeOf9
 v9 := Tryd.zeroValue9
 t21 := Tryd.underlying21
 a21 := Tryd.isAgg21
 z21 := Tryd.sizeOf21
 v21 := Tryd.zeroValue21
 t31 := Tryd.underlying55
 a31 := Tryd.isAgg55
 z31 := Tryd.sizeOf55
 v31 := Tryd.zeroValue55
 t40 := Tryd.underlying63
 a40 := Tryd.isAgg63
 z40 := Tryd.sizeOf63
 v40 := Tryd.zeroValue63
 t46 := Tryd.underlying108
 a46 := Tryd.isAgg108
 z46 := Tryd.sizeOf108
 v46 := Tryd.zeroValue108
 t49 := Tryd.underlying91
 a49 := Tryd.isAgg91
 z49 := Tryd.sizeOf91
 v49 := Tryd.zeroValue91
 t51 := Tryd.underlying72
 a51 := Tryd.isAgg72
 z51 := Tryd.sizeOf72
 v51 := Tryd.zeroValue72
 t119 := Tryd.underlying61
 a119 := Tryd.isAgg61
 z119 := Tryd.sizeOf61
 t141 := Tryd.underlying74
 a141 := Tryd.isAgg74
 z141 := Tryd.sizeOf74
 v141 := Tryd.zeroValue74
 t152 := Tryd.underlying69
 a152 := Tryd.isAgg69
 z152 := Tryd.sizeOf69
 v152 := Tryd.zeroValue69
 t154 := Tryd.underlying71
 a154 := Tryd.isAgg71
 z154 := Tryd.sizeOf71
 v154 := Tryd.zeroValue71
 t193 := Tryd.underlying87
 a193 := Tryd.isAgg87
 z193 := Tryd.sizeOf87
 v193 := Tryd.zeroValue87
 t194 := Tryd.underlying88
 a194 := Tryd.isAgg88
 z194 := Tryd.sizeOf88
 v194 := Tryd.zeroValue88
 t196 := Tryd.underlying90
 a196 := Tryd.isAgg90
 z196 := Tryd.sizeOf90
 v196 := Tryd.zeroValue90
 t198 := Tryd.underlying93
 a198 := Tryd.isAgg93
 z198 := Tryd.sizeOf93
 v198 := Tryd.zeroValue93
 t201 := Tryd.underlying96
 a201 := Tryd.isAgg96
 z201 := Tryd.sizeOf96
 v201 := Tryd.zeroValue96
 t226 := Tryd.underlying107
 a226 := Tryd.isAgg107
 z226 := Tryd.sizeOf107
 v226 := Tryd.zeroValue107
 t227 := Tryd.underlying109
 a227 := Tryd.isAgg109
 z227 := Tryd.sizeOf109
 v227 := Tryd.zeroValue109
 g0 := by kernel_rfl
 g6 := by kernel_rfl }
open Go.RowKit Go.Lib in
theorem Tryd.strings_Fields (s : ByteArray) (w : World) (hs : s.size < 4294967281) (hascii : ∀ (j : Nat) b, s.data.toList[j]? = some b → b.toNat < 128) (htab : Lib.TabIs Tryd.prog w "strings.asciiSpace" .u8 Lib.asciiSpaceTab) :
  Calls Tryd.prog 36 #[.string s] w fun e w' =>
   e = .returned (.slice (some ⟨w.heap.size, 0, none⟩) (Lib.fields s.data.toList).length (Lib.fields s.data.toList).length) ∧ w' = w.alloc (.cells ((Lib.fields s.data.toList).map fun l => Value.string ⟨l.toArray⟩).toArray 9) := Any.strings_Fields Tryd.lays157 (by kernel_rfl) (by kernel_rfl) s w hs hascii htab
def Tryd.lays110_ren : Go.Shelf.Ren := ⟨fun | 110 => 35 | 109 => 39 | n => n, fun | 31 => 55 | 9 => 9 | 4 => 4 | 3 => 3 | 0 => 0 | n => n, fun | n => n⟩
theorem Tryd.lays110 : Go.Proofs.Lays.n110 Tryd.prog Tryd.lays110_ren := {
 mixed := by kernel_rfl
 f109 := Tryd.func39.trans (congrArg some (by kernel_rfl))
 f110 := Tryd.func35.trans (congrArg some (by kernel_rfl))
 t0 := Tryd.underlying0
 a0 := Tryd.isAgg0
 z0 := Tryd.sizeOf0
 v0 := Tryd.zeroValue0
 t3 := Tryd.underlying3
 a3 := Tryd.isAgg3
 z3 := Tryd.sizeOf3
 v3 := Tryd.zeroValue3
 t4 := Tryd.underlying4
 a4 := Tryd.isAgg4
 z4 := Tryd.sizeOf4
 v4 := Tryd.zeroValue4
 t9 := Tryd.underlying9
 a9 := Tryd.isAgg9
 z9 := Tryd.sizeOf9
 v9 := Tryd.zeroValue9
 t31 := Tryd.underlying55
 a31 := Tryd.isAgg55
 z31 := Tryd.sizeOf55
 v31 := Tryd.zeroValue55 }
open Go.Lib in
theorem Tryd.slices_Contains_string (b off n c : Nat) (zs : List ByteArray) (x : ByteArray) (w : World) (hz : n ≤ zs.length) (hbig : n ≤ 9223372036854775807) (hc : ∀ j, j < zs.length → w.cell? ⟨b, off + j, none⟩ = some (.string (zs.getD j ByteArray.empty))) :
  Calls Tryd.prog 35 #[.slice (some ⟨b, off, none⟩) n c, .string x] w fun e w' => e = .returned (.bool (Lib.containsS (zs.take n) x)) ∧ w' = w := Any.slices_Contains_string Tryd.lays110 b off n c zs x w hz hbig hc
def Tryd.laysTL_ren : Go.Shelf.Ren := ⟨fun | 161 => 43 | 231 => 46 | 227 => 47 | 233 => 48 | 235 => 49 | 228 => 58 | 197 => 59 | 151 => 60 | 260 => 70 | 152 => 71 | 137 => 74 | 119 => 75 | 224 => 76 | 225 => 77 | 217 => 83 | 266 => 88 | n => n, fun | 9 => 9 | 4 => 4 | 3 => 3 | 5 => 5 | 117 => 78 | 116 => 77 | 0 => 0 | 124 => 81 | 105 => 98 | 21 => 21 | 119 => 61 | 46 => 108 | 139 => 114 | 138 => 113 | n => n, fun | 3 => 2 | 4 => 3 | n => n⟩
theorem Tryd.laysTL : Go.Proofs.Lays.n161 Tryd.prog Tryd.laysTL_ren := {
 mixed := by kernel_rfl
 f119 := Tryd.func75.trans (congrArg some (by kernel_rfl))
 f137 := Tryd.func74.trans (congrArg some (by kernel_rfl))
 f151 := Tryd.func60.trans (congrArg some (by kernel_rfl))
 f152 := Tryd.func71.trans (congrArg some (by kernel_rfl))
 f161 := Tryd.func43.trans (congrArg some (by kernel_rfl))
 f197 := Tryd.func59.trans (congrArg some (by kernel_rfl))
 f217 := Tryd.func83.trans (congrArg some (by kernel_rfl))
 f224 := Tryd.func76.trans (congrArg some (by kernel_rfl))
 f225 := Tryd.func77.trans (congrArg some (by kernel_rfl))
 f227 := Tryd.func47.trans (congrArg some (by kernel_rfl))
 f228 := Tryd.func58.trans (congrArg some (by kernel_rfl))
 f231 := Tryd.func46.trans (congrArg some (by kernel_rfl))
 f233 := Tryd.func48.trans (congrArg some (by kernel_rfl))
 f235 := Tryd.func49.trans (congrArg some (by kernel_rfl))
 f260 := Tryd.func70.trans (congrArg some (by kernel_rfl))
 f266 := Tryd.func88.trans (congrArg some (by kernel_rfl))
 t0 := Tryd.underlying0
 a0 := Tryd.isAgg0
 z0 := Tryd.sizeOf0
 v0 := Tryd.zeroValue0
 t3 := Tryd.underlying3
 a3 := Tryd.isAgg3
 z3 := Tryd.sizeOf3
 v3 := Tryd.zeroValue3
 t4 := Tryd.underlying4
 a4 := Tryd.isAgg4
 z4 := Tryd.sizeOf4
 v4 := Tryd.zeroValue4
 t5 := Tryd.underlying5
 a5 := Tryd.isAgg5
 z5 := Tryd.sizeOf5
 v5 := Tryd.zeroValue5
 t9 := Tryd.underlying9
 a9 := Tryd.isAgg9
 z9 := Tryd.sizeOf9
 v9 := Tryd.zeroValue9
 t21 := Tryd.underlying21
 a21 := Tryd.isAgg21
 z21 := Tryd.sizeOf21
 v21 := Tryd.zeroValue21
 t46 := Tryd.underlying108
 a46 := Tryd.isAgg108
 z46 := Tryd.sizeOf108
 v46 := Tryd.zeroValue108
 t105 := Tryd.underlying98
 a105 := Tryd.isAgg98
 z105 := Tryd.sizeOf98
 v105 := Tryd.zeroValue98
 t116 := Tryd.underlying77
 a116 := Tryd.isAgg77
 z116 := Tryd.sizeOf77
 t117 := Tryd.underlying78
 a117 := Tryd.isAgg78
 z117 := Tryd.sizeOf78
 v117 := Tryd.zeroValue78
 t119 := Tryd.underlying61
 a119 := Tryd.isAgg61
 z119 := Tryd.sizeOf61
 t124 := Tryd.underlying81
 a124 := Tryd.isAgg81
 z124 := Tryd.sizeOf81
 v124 := Tryd.zeroValue81
 t138 := Tryd.underlying113
 a138 := Tryd.isAgg113
 z138 := Tryd.sizeOf113
 v138 := Tryd.zeroValue113
 t139 := Tryd.underlying114
 a139 := Tryd.isAgg114
 z139 := Tryd.sizeOf114
 v139 := Tryd.zeroValue114
 g3 := by kernel_rfl
 g4 := by kernel_rfl }
open Go.RowKit in
theorem Tryd.TrimLeft_set (s cutset : ByteArray) (w : World) (hcs : cutset.size < 4294967281) (hascii : ∀ (j : Nat) b, cutset.data.toList[j]? = some b → b.toNat < 128) :
  Calls Tryd.prog 43 #[.string s, .string cutset] w fun e w' => e = .returned (.string ⟨(Lib.trimLeftS s.data.toList cutset.data.toList).toArray⟩) ∧ Below w.heap.size w w' := Any.strings_TrimLeft_laid Tryd.laysTL (by kernel_rfl) s cutset w hcs hascii
end Go.Proofs

/- The walks of package lex: what each of its functions comes to, in the words of HLex. -/
namespace Go.Proofs.YthdkjfhpbigdpaaDoor.HLexC
open Go Go.RowKit Go.Lib Go.Proofs Go.Proofs.YthdkjfhpbigdpaaDoorW.PrintWords Go.Proofs.YthdkjfhpbigdpaaDoorW.PrintLast Go.Proofs.YthdkjfhpbigdpaaDoorW.PrintMore
set_option linter.unusedVariables false
set_option linter.unusedSimpArgs false

theorem bcell {W w1 : World} (hb : Below W.heap.size W w1) : (∀ b o, b < W.heap.size → w1.cell? ⟨b, o, none⟩ = W.cell? ⟨b, o, none⟩) ∧ (∀ b o, b < W.heap.size → w1.frozen? ⟨b, o, none⟩ = W.frozen? ⟨b, o, none⟩) :=
 ⟨fun b o h => hb.cell (p := ⟨b, o, none⟩) h, fun b o h => hb.frozen (p := ⟨b, o, none⟩) h⟩

set_option maxHeartbeats 1000000 in
theorem lower_any (c : Int) (w : World) (h0 : 0 ≤ c) (h1 : c ≤ 255) : Calls Tryd.prog 62 #[.int .u8 c] w fun e w' => e = .returned (.bool (decide (97 ≤ c) && decide (c ≤ 122))) ∧ w = w' := by
 by_cases h : 97 ≤ c <;> by_cases h' : c ≤ 122
 all_goals
  go_enter Tryd.func62, Tryd.ntmps62
  go_wp2
  go_ret
  exact ⟨by simp [h, h'], rfl⟩
set_option maxHeartbeats 1000000 in
theorem upper_any (c : Int) (w : World) (h0 : 0 ≤ c) (h1 : c ≤ 255) : Calls Tryd.prog 63 #[.int .u8 c] w fun e w' => e = .returned (.bool (decide (65 ≤ c) && decide (c ≤ 90))) ∧ w = w' := by
 by_cases h : 65 ≤ c <;> by_cases h' : c ≤ 90
 all_goals
  go_enter Tryd.func63, Tryd.ntmps63
  go_wp2
  go_ret
  exact ⟨by simp [h, h'], rfl⟩
set_option maxHeartbeats 1000000 in
theorem digit_any (c : Int) (w : World) (h0 : 0 ≤ c) (h1 : c ≤ 255) : Calls Tryd.prog 64 #[.int .u8 c] w fun e w' => e = .returned (.bool (decide (48 ≤ c) && decide (c ≤ 57))) ∧ w = w' := by
 by_cases h : 48 ≤ c <;> by_cases h' : c ≤ 57
 all_goals
  go_enter Tryd.func64, Tryd.ntmps64
  go_wp2
  go_ret
  exact ⟨by simp [h, h'], rfl⟩

def wordlyI (c : Int) : Bool := decide (97 ≤ c) && decide (c ≤ 122) || (decide (65 ≤ c) && decide (c ≤ 90)) || (decide (48 ≤ c) && decide (c ≤ 57))
set_option maxHeartbeats 2000000 in
theorem wordly_any (c : Int) (w : World) (h0 : 0 ≤ c) (h1 : c ≤ 255) : Calls Tryd.prog 52 #[.int .u8 c] w fun e w' => e = .returned (.bool (wordlyI c)) ∧ w = w' := by
 unfold wordlyI
 cases hl : (decide (97 ≤ c) && decide (c ≤ 122)) <;> cases hu : (decide (65 ≤ c) && decide (c ≤ 90)) <;> cases hd : (decide (48 ≤ c) && decide (c ≤ 57))
 all_goals
  have HL := Lib.hid hl; have HU := Lib.hid hu; have HD := Lib.hid hd
  clear hl hu hd
  go_enter Tryd.func52, Tryd.ntmps52
  go_wp2_with (first|(go_at_call 62; refine (lower_any _ _ h0 h1).mono ?_; rintro e w' ⟨rfl, rfl⟩; rw [HL.out]) | (go_at_call 63; refine (upper_any _ _ h0 h1).mono ?_; rintro e w' ⟨rfl, rfl⟩; rw [HU.out]) | (go_at_call 64; refine (digit_any _ _ h0 h1).mono ?_; rintro e w' ⟨rfl, rfl⟩; rw [HD.out]))
  go_ret
  exact ⟨by simp, rfl⟩

set_option maxHeartbeats 1000000 in
theorem pRun_pays (w : World) : PredAt Tryd.prog 51 #[] encR HLex.pRun w := fun W r _ => by
 unfold FnGives
 by_cases h0 : 127 < r
 ·go_enter Tryd.func51, Tryd.ntmps51
  have z0 : decide ((127 : Int) < (r : Int)) = true := decide_eq_true (by omega)
  go_wp2
  go_ret
  exact ⟨by simp [HLex.pRun, h0], 0, rfl⟩
 ·have z0 : decide ((127 : Int) < (r : Int)) = false := decide_eq_false (by omega)
  have z1 : (0 : Int) ≤ (r : Int) := by omega
  have z2 : (r : Int) ≤ 255 := by omega
  cases hw : wordlyI (r : Int)
  all_goals
   have HW := Lib.hid hw
   clear hw
   go_enter Tryd.func51, Tryd.ntmps51
   go_wp2_with (go_at_call 52; refine (wordly_any _ _ z1 z2).mono ?_; rintro e w' ⟨rfl, rfl⟩; rw [HW.out])
   go_ret
   refine ⟨?_, 0, rfl⟩
   have := HW.out
   unfold wordlyI at this
   congr 2
   unfold HLex.pRun
   have e0 : decide (127 < r) = false := by simp; omega
   rw [e0, Bool.false_or]
   have c1 : ∀ a : Nat, decide ((a : Int) ≤ (r : Int)) = decide (a ≤ r) := fun a => by simp
   have c2 : ∀ a : Nat, decide ((r : Int) ≤ (a : Int)) = decide (r ≤ a) := fun a => by simp
   rw [show (97 : Int) = ((97 : Nat) : Int) from rfl, show (122 : Int) = ((122 : Nat) : Int) from rfl, show (65 : Int) = ((65 : Nat) : Int) from rfl, show (90 : Int) = ((90 : Nat) : Int) from rfl, show (48 : Int) = ((48 : Nat) : Int) from rfl, show (57 : Int) = ((57 : Nat) : Int) from rfl] at this
   simp only [c1, c2] at this
   rw [this]
   rfl

set_option maxHeartbeats 1000000 in
theorem pBig_pays (w : World) : PredAt Tryd.prog 66 #[] encR HLex.pBig w := fun W r _ => by
 unfold FnGives
 go_enter Tryd.func66, Tryd.ntmps66
 go_wp2
 go_ret
 exact ⟨by simp [HLex.pBig]; omega, 0, rfl⟩

theorem enters_first1 : ∀ args w, (callFunc 51 args).run Tryd.prog w = .ok (.enter 51 args) w := enters_of Tryd.func51 (by kernel_rfl) rfl
theorem enters_named1 : ∀ args w, (callFunc 66 args).run Tryd.prog w = .ok (.enter 66 args) w := enters_of Tryd.func66 (by kernel_rfl) rfl

theorem indexRun_any (s : ByteArray) (w : World) :
  Calls Tryd.prog 50 #[.string s, .func (.func 51) #[] #[]] w fun e w' => e = .returned (.int .i64 (Lib.idxFunc HLex.pRun true s)) ∧ Below w.heap.size w w' :=
 Tryd.strings_IndexFunc 51 #[] enters_first1 HLex.pRun s w (pRun_pays w)
theorem containsBig_any (s : ByteArray) (w : World) :
  Calls Tryd.prog 65 #[.string s, .func (.func 66) #[] #[]] w fun e w' => e = .returned (.bool (s.data.toList.any (fun c => decide (57 < c.toNat)))) ∧ Below w.heap.size w w' := by
 have h := Tryd.strings_ContainsFunc 66 #[] enters_named1 HLex.pBig s w (pBig_pays w)
 rw [HLex.idx_big] at h
 exact h

def wordsB : List ByteArray := [⟨#[108, 101, 116]⟩, ⟨#[108, 101, 116, 114, 101, 99]⟩, ⟨#[105, 110]⟩, ⟨#[99, 97, 115, 101]⟩, ⟨#[111, 102]⟩]
theorem bytes_eq_iff (a b : ByteArray) : a = b ↔ a.data.toList = b.data.toList := ⟨fun h => by rw [h], fun h => by
 cases a; cases b; congr 1; exact Array.toList_inj.1 h⟩
theorem containsWords (s : ByteArray) : Lib.containsS (wordsB.take 5) s = HLex.isWord s.data.toList := by
 rw [Bool.eq_iff_iff, Lib.containsS_iff]
 unfold HLex.isWord HLex.words wordsB
 simp [bytes_eq_iff]
theorem wordCells (w : World) : ∀ j, j < wordsB.length → (w.alloc (Obj.cells #[Value.string { data := #[108, 101, 116] }, Value.string { data := #[108, 101, 116, 114, 101, 99] }, Value.string { data := #[105, 110] }, Value.string { data := #[99, 97, 115, 101] }, Value.string { data := #[111, 102] }] 9)).cell? ⟨w.heap.size, 0 + j, none⟩ = some (.string (wordsB.getD j ByteArray.empty)) := by
 intro j hj
 have hj' : j < 5 := hj
 match j, hj' with
 | 0, _ => simp [go_sem, wordsB]
 | 1, _ => simp [go_sem, wordsB]
 | 2, _ => simp [go_sem, wordsB]
 | 3, _ => simp [go_sem, wordsB]
 | 4, _ => simp [go_sem, wordsB]
set_option maxHeartbeats 1000000 in
theorem word_any (s : ByteArray) (w : World) :
  Calls Tryd.prog 68 #[.string s] w fun e w' => e = .returned (.bool (HLex.isWord s.data.toList)) ∧ Below w.heap.size w w' := by
 have hC := fun (W : World) (hc : ∀ j, j < wordsB.length → W.cell? ⟨w.heap.size, 0 + j, none⟩ = some (.string (wordsB.getD j ByteArray.empty))) =>
  Tryd.slices_Contains_string w.heap.size 0 5 5 wordsB s W (by decide) (by decide) hc
 rw [containsWords] at hC
 go_enter Tryd.func68, Tryd.ntmps68
 go_wp2_with (go_at_call 35; refine (hC _ (wordCells w)).mono ?_; rintro e w' ⟨rfl, rfl⟩)
 go_ret
 exact ⟨rfl, (Below.refl _ _).alloc (Nat.le_refl _) _⟩

theorem bytes_below (w : World) (e : TypeId) (s : ByteArray) : Below w.heap.size w (Lib.bytesWorld w e s) := by
 unfold Lib.bytesWorld
 exact Lib.below_freeze (((Below.refl _ w).drew).alloc (Nat.le_refl _) _) (Nat.le_refl _) _
theorem atoi_any (s : ByteArray) (n : Int) (w : World) (hl : s.size ≤ 18) (h : Lib.atoi s.data.toList = some n) :
  Calls Tryd.prog 67 #[.string s] w fun e w' => e = .returned (.tuple #[.int .i64 n, .nilIface]) ∧ Below w.heap.size w w' :=
 (Tryd.strconv_Atoi s n hl h w).mono fun e w' ⟨he, t, hw⟩ => ⟨he, by rw [hw]; exact bytes_below _ _ _⟩

def NamedPost (s : ByteArray) (w : World) (e : Ending) (w' : World) : Prop :=
 (match HLex.named s.data.toList with
  | .ok (k, n) => e = .returned (.agg #[.int .i64 (k : Int), .string s, .int .i64 (n : Int), .int .i64 0])
  | .error er => e = .panicked [{ v := .iface 65 (.agg #[.int .i64 (er : Int)]), recovered := false }]) ∧ Below w.heap.size w w'

theorem head_get (s : ByteArray) (hn : 0 < s.size) : s.data.toList.head? = some s[0] := by
 have := HLex.drop_cons_get s 0 hn
 rw [List.drop_zero] at this
 rw [this]; rfl
set_option maxHeartbeats 2000000 in
theorem named_any (s : ByteArray) (w : World) (hn : 0 < s.size) (hmax : s.size ≤ 9223372036854775807) (hw : ∀ c ∈ s.data.toList, HLex.wordly c = true) :
  Calls Tryd.prog 53 #[.string s] w (NamedPost s w) := by
 have hh := head_get s hn
 have hsz : s.data.toList.length = s.size := Array.length_toList
 have hc0 : (0 : Int) ≤ ((s[0]).toNat : Int) := by omega
 have hc1 : ((s[0]).toNat : Int) ≤ 255 := by have := (s[0]).toNat_lt; omega
 have hdg : (decide ((48 : Int) ≤ ((s[0]).toNat : Int)) && decide (((s[0]).toNat : Int) ≤ 57)) = HLex.digit s[0] := by
  unfold HLex.digit; rw [Bool.eq_iff_iff]; simp; omega
 have hup : (decide ((65 : Int) ≤ ((s[0]).toNat : Int)) && decide (((s[0]).toNat : Int) ≤ 90)) = HLex.upper s[0] := by
  unfold HLex.upper; rw [Bool.eq_iff_iff]; simp; omega
 cases hd : HLex.digit s[0]
 ·have HD := Lib.hid hd
  have HDG := Lib.hid hdg
  have HUP := Lib.hid hup
  clear hdg hup
  by_cases hlen : 16 < s.size
  ·have hfin : HLex.named s.data.toList = .error 11 := by
    unfold HLex.named; rw [hh]; simp [hd, hsz, hlen]
   have HF := Lib.hid hfin; clear hfin hd hh hsz hw
   go_enter Tryd.func53, Tryd.ntmps53
   go_wp2_with (first|(go_at_call 64; refine (digit_any _ _ hc0 hc1).mono ?_; rintro e w' ⟨rfl, rfl⟩; rw [HDG.out, HD.out]))
   refine (show _ ∧ _ from ⟨rfl, ?_⟩)
   unfold NamedPost
   rw [HF.out]
   exact ⟨rfl, ((Below.refl _ _).alloc (Nat.le_refl _) _).alloc (by simp) _⟩
  ·have hk : ∃ k : Nat, HLex.named s.data.toList = .ok (k, 0) ∧ k = (if HLex.isWord s.data.toList then 4 else if HLex.upper s[0] then 2 else 1) := by
    unfold HLex.named; rw [hh]; simp only [Option.map_some, Option.getD_some, hd, hsz, hlen, Bool.false_eq_true, if_false]
    by_cases ha : HLex.isWord s.data.toList = true <;> by_cases hb' : HLex.upper s[0] = true <;> simp only [ha, hb', if_true, Bool.false_eq_true, if_false] <;> exact ⟨_, rfl, rfl⟩
   have HK := Lib.hid hk
   clear hk hd hh hsz hw
   cases hwd : HLex.isWord s.data.toList
   ·cases hu : HLex.upper s[0]
    all_goals
     have HW := Lib.hid hwd
     have HU := Lib.hid hu
     clear hwd hu
     go_enter Tryd.func53, Tryd.ntmps53
     go_wp2_with (first|(go_at_call 64; refine (digit_any _ _ hc0 hc1).mono ?_; rintro e w' ⟨rfl, rfl⟩; rw [HDG.out, HD.out]) | (go_at_call 63; refine (upper_any _ _ hc0 hc1).mono ?_; rintro e w' ⟨rfl, rfl⟩; rw [HUP.out, HU.out]) | (go_at_call 68; refine (word_any s _).mono ?_; rintro e w' ⟨rfl, hbl⟩; rw [HW.out]; have hz := hbl.size; simp only [World.size_alloc] at hz; have hb0 := Lib.hid (blk_below (blk_alloc (blk_new w _) _) hbl); obtain ⟨hc, hf⟩ := bcell hbl; simp only [World.size_alloc] at hc hf))
     obtain ⟨kk, hk1, hk2⟩ := HK.out
     rw [HW.out, HU.out] at hk2
     simp only [Bool.false_eq_true, if_false, if_true] at hk2
     refine bodyPost_ret (v := .agg #[.int .i64 (kk : Int), .string s, .int .i64 0, .int .i64 0]) (results_cell_row rfl _ _ w.heap.size 33 #[.int .i64 (kk : Int), .string s, .int .i64 0, .int .i64 0] (0, 0) _ rfl (by rw [hk2]; exact blk_put (blk_put (blk_put (blk_put (blk_far hb0.out (by simp) _) 0 _ rfl) 1 _ rfl) 2 _ rfl) 3 _ rfl) Tryd.underlying33 rfl (by kernel_rfl)) rfl ?_
     unfold NamedPost
     rw [hk1]
     exact ⟨rfl, ((((((((Below.refl _ _).alloc (Nat.le_refl _) _).alloc (by simp) _).trans (hbl.mono (by simp; omega))).setCell (by simp) _).setCell (by simp) _).setCell (by simp) _).setCell (by simp) _).setCell (by simp) _⟩
   ·have HW := Lib.hid hwd
    clear hwd
    go_enter Tryd.func53, Tryd.ntmps53
    go_wp2_with (first|(go_at_call 64; refine (digit_any _ _ hc0 hc1).mono ?_; rintro e w' ⟨rfl, rfl⟩; rw [HDG.out, HD.out]) | (go_at_call 68; refine (word_any s _).mono ?_; rintro e w' ⟨rfl, hbl⟩; rw [HW.out]; have hz := hbl.size; simp only [World.size_alloc] at hz; have hb0 := Lib.hid (blk_below (blk_alloc (blk_new w _) _) hbl); obtain ⟨hc, hf⟩ := bcell hbl; simp only [World.size_alloc] at hc hf))
    obtain ⟨kk, hk1, hk2⟩ := HK.out
    rw [HW.out] at hk2
    simp only [if_true] at hk2
    refine bodyPost_ret (v := .agg #[.int .i64 (kk : Int), .string s, .int .i64 0, .int .i64 0]) (results_cell_row rfl _ _ w.heap.size 33 #[.int .i64 (kk : Int), .string s, .int .i64 0, .int .i64 0] (0, 0) _ rfl (by rw [hk2]; exact blk_put (blk_put (blk_put (blk_put (blk_far hb0.out (by simp) _) 0 _ rfl) 1 _ rfl) 2 _ rfl) 3 _ rfl) Tryd.underlying33 rfl (by kernel_rfl)) rfl ?_
    unfold NamedPost
    rw [hk1]
    exact ⟨rfl, ((((((((Below.refl _ _).alloc (Nat.le_refl _) _).alloc (by simp) _).trans (hbl.mono (by simp; omega))).setCell (by simp) _).setCell (by simp) _).setCell (by simp) _).setCell (by simp) _).setCell (by simp) _⟩
 ·cases hb : s.data.toList.any (fun c => decide (57 < c.toNat))
  ·have hall : ∀ c ∈ s.data.toList, HLex.digit c = true := by
    intro c hc
    have h1 := hw c hc
    have h2 := List.any_eq_false.1 hb c hc
    simp at h2
    unfold HLex.wordly HLex.lower HLex.upper HLex.digit at h1
    unfold HLex.digit
    simp at h1 ⊢
    omega
   have hat := HLex.atoi_num s.data.toList (by intro h0; rw [h0] at hsz; simp at hsz; omega) hall
   have hfin : HLex.named s.data.toList = (if 18 < s.size ∨ 1 < s.size ∧ (s[0]).toNat = 48 then .error 11 else .ok (3, HLex.num s.data.toList)) := by
    unfold HLex.named; rw [hh]; simp only [Option.map_some, Option.getD_some, hd, hb, hsz, if_true, Bool.false_eq_true, if_false, Option.some.injEq]
    have : (s[0] = 48) ↔ (s[0]).toNat = 48 := ⟨fun h => by rw [h]; rfl, fun h => UInt8.toNat_inj.1 (by rw [h]; rfl)⟩
    simp only [this]
   have HF := Lib.hid hfin; clear hfin
   have HD := Lib.hid hd; clear hd
   have HB := Lib.hid hb; clear hb
   have HDG := Lib.hid hdg; clear hdg
   have HAT := Lib.hid hat
   clear hh hsz hw hup hall hat
   by_cases h18 : 18 < s.size
   ·go_enter Tryd.func53, Tryd.ntmps53
    go_wp2_with (first|(go_at_call 64; refine (digit_any _ _ hc0 hc1).mono ?_; rintro e w' ⟨rfl, rfl⟩; rw [HDG.out, HD.out]) | (go_at_call 65; refine (containsBig_any s _).mono ?_; rintro e w' ⟨rfl, hbl⟩; rw [HB.out]))
    refine (show _ ∧ _ from ⟨rfl, ?_⟩)
    unfold NamedPost
    rw [HF.out, if_pos (.inl h18)]
    exact ⟨rfl, (((Below.refl _ _).alloc (Nat.le_refl _) _).alloc (by simp) _).trans (hbl.mono (by simp; omega))⟩
   ·by_cases h1 : 1 < s.size
    ·by_cases h48 : (s[0]).toNat = 48
     ·have hz48 : (((s[0]).toNat : Int) == 48) = true := by simp [h48]
      have H48 := Lib.hid h48; clear h48
      go_enter Tryd.func53, Tryd.ntmps53
      go_wp2_with (first|(go_at_call 64; refine (digit_any _ _ hc0 hc1).mono ?_; rintro e w' ⟨rfl, rfl⟩; rw [HDG.out, HD.out]) | (go_at_call 65; refine (containsBig_any s _).mono ?_; rintro e w' ⟨rfl, hbl⟩; rw [HB.out]))
      refine (show _ ∧ _ from ⟨rfl, ?_⟩)
      unfold NamedPost
      rw [HF.out, if_pos (.inr ⟨h1, H48.out⟩)]
      exact ⟨rfl, (((Below.refl _ _).alloc (Nat.le_refl _) _).alloc (by simp) _).trans (hbl.mono (by simp; omega))⟩
     ·have hz48 : (((s[0]).toNat : Int) == 48) = false := by simp; omega
      go_enter Tryd.func53, Tryd.ntmps53
      go_wp2_with (first|(go_at_call 64; refine (digit_any _ _ hc0 hc1).mono ?_; rintro e w' ⟨rfl, rfl⟩; rw [HDG.out, HD.out]) | (go_at_call 65; refine (containsBig_any s _).mono ?_; rintro e w' ⟨rfl, hbl⟩; rw [HB.out]; have hz := hbl.size; simp only [World.size_alloc] at hz; have hb0 := Lib.hid (blk_below (blk_alloc (blk_new w _) _) hbl); obtain ⟨hc, hf⟩ := bcell hbl; simp only [World.size_alloc] at hc hf))
      have hb1 := blk_below (blk_new ((w.alloc _)) _) hbl
      simp only [World.size_alloc] at hb1
      replace hb1 := Lib.hid hb1
      have HA := Lib.hid (atoi_any s (HLex.num s.data.toList : Int) (w'.setCell ⟨w.heap.size + 1, 0, none⟩ (.int .i64 3)) (by omega) HAT.out)
      refine HA.out.mono ?_
      rintro e w2 ⟨rfl, hb2⟩
      have hB1 := blk_below (blk_put hb1.out 0 (.int .i64 3) rfl) hb2
      have hB0 := blk_below (blk_far (p := ⟨w.heap.size + 1, 0, none⟩) hb0.out (by simp) (.int .i64 3)) hb2
      have c10 := blk_cell hB1 0; have c11 := blk_cell hB1 1; have c12 := blk_cell hB1 2; have c13 := blk_cell hB1 3
      have c00 := blk_cell hB0 0; have c01 := blk_cell hB0 1; have c02 := blk_cell hB0 2; have c03 := blk_cell hB0 3
      have z1 := fun i => blk_frozen hB1 i
      have z0 := fun i => blk_frozen hB0 i
      have HB0 := Lib.hid hB0; have HB1 := Lib.hid hB1; clear hB0 hB1 hc hf HA
      simp at c10 c11 c12 c13 c00 c01 c02 c03
      go_wp2_with fail
      refine bodyPost_ret (v := .agg #[.int .i64 3, .string s, .int .i64 (HLex.num s.data.toList : Int), .int .i64 0]) (results_cell_row rfl _ _ w.heap.size 33 #[.int .i64 3, .string s, .int .i64 (HLex.num s.data.toList : Int), .int .i64 0] (0, 0) _ rfl (blk_put (blk_put (blk_put (blk_put (blk_far HB0.out (by simp) _) 0 _ rfl) 1 _ rfl) 2 _ rfl) 3 _ rfl) Tryd.underlying33 rfl (by kernel_rfl)) rfl ?_
      unfold NamedPost
      rw [HF.out, if_neg (by omega)]
      exact ⟨rfl, below_set (below_set (below_set (below_set (below_set (below_step (below_set (below_step (below_alloc (below_alloc (Below.refl _ w) _) _) hbl) (by omega)) hb2) (by omega)) (by omega)) (by omega)) (by omega)) (by omega)⟩
    ·go_enter Tryd.func53, Tryd.ntmps53
     go_wp2_with (first|(go_at_call 64; refine (digit_any _ _ hc0 hc1).mono ?_; rintro e w' ⟨rfl, rfl⟩; rw [HDG.out, HD.out]) | (go_at_call 65; refine (containsBig_any s _).mono ?_; rintro e w' ⟨rfl, hbl⟩; rw [HB.out]; have hz := hbl.size; simp only [World.size_alloc] at hz; have hb0 := Lib.hid (blk_below (blk_alloc (blk_new w _) _) hbl); obtain ⟨hc, hf⟩ := bcell hbl; simp only [World.size_alloc] at hc hf))
     have hb1 := blk_below (blk_new ((w.alloc _)) _) hbl
     simp only [World.size_alloc] at hb1
     replace hb1 := Lib.hid hb1
     have HA := Lib.hid (atoi_any s (HLex.num s.data.toList : Int) (w'.setCell ⟨w.heap.size + 1, 0, none⟩ (.int .i64 3)) (by omega) HAT.out)
     refine HA.out.mono ?_
     rintro e w2 ⟨rfl, hb2⟩
     have hB1 := blk_below (blk_put hb1.out 0 (.int .i64 3) rfl) hb2
     have hB0 := blk_below (blk_far (p := ⟨w.heap.size + 1, 0, none⟩) hb0.out (by simp) (.int .i64 3)) hb2
     have c10 := blk_cell hB1 0; have c11 := blk_cell hB1 1; have c12 := blk_cell hB1 2; have c13 := blk_cell hB1 3
     have c00 := blk_cell hB0 0; have c01 := blk_cell hB0 1; have c02 := blk_cell hB0 2; have c03 := blk_cell hB0 3
     have z1 := fun i => blk_frozen hB1 i
     have z0 := fun i => blk_frozen hB0 i
     have HB0 := Lib.hid hB0; have HB1 := Lib.hid hB1; clear hB0 hB1 hc hf HA
     simp at c10 c11 c12 c13 c00 c01 c02 c03
     go_wp2_with fail
     refine bodyPost_ret (v := .agg #[.int .i64 3, .string s, .int .i64 (HLex.num s.data.toList : Int), .int .i64 0]) (results_cell_row rfl _ _ w.heap.size 33 #[.int .i64 3, .string s, .int .i64 (HLex.num s.data.toList : Int), .int .i64 0] (0, 0) _ rfl (blk_put (blk_put (blk_put (blk_put (blk_far HB0.out (by simp) _) 0 _ rfl) 1 _ rfl) 2 _ rfl) 3 _ rfl) Tryd.underlying33 rfl (by kernel_rfl)) rfl ?_
     unfold NamedPost
     rw [HF.out, if_neg (by omega)]
     exact ⟨rfl, below_set (below_set (below_set (below_set (below_set (below_step (below_set (below_step (below_alloc (below_alloc (Below.refl _ w) _) _) hbl) (by omega)) hb2) (by omega)) (by omega)) (by omega)) (by omega)) (by omega)⟩
  ·have hfin : HLex.named s.data.toList = .error 10 := by
    unfold HLex.named; rw [hh]; simp [hd, hb]
   have HF := Lib.hid hfin; clear hfin
   have HD := Lib.hid hd; clear hd
   have HB := Lib.hid hb; clear hb
   have HDG := Lib.hid hdg; clear hdg
   clear hh hsz hw hup
   go_enter Tryd.func53, Tryd.ntmps53
   go_wp2_with (first|(go_at_call 64; refine (digit_any _ _ hc0 hc1).mono ?_; rintro e w' ⟨rfl, rfl⟩; rw [HDG.out, HD.out]) | (go_at_call 65; refine (containsBig_any s _).mono ?_; rintro e w' ⟨rfl, hbl⟩; rw [HB.out]))
   refine (show _ ∧ _ from ⟨rfl, ?_⟩)
   unfold NamedPost
   rw [HF.out]
   exact ⟨rfl, (((Below.refl _ _).alloc (Nat.le_refl _) _).alloc (by simp) _).trans (hbl.mono (by simp; omega))⟩

end Go.Proofs.YthdkjfhpbigdpaaDoor.HLexC

/- The walk of lex.first, in the words of HLex. -/
namespace Go.Proofs.YthdkjfhpbigdpaaDoor.HLexC
open Go Go.RowKit Go.Lib Go.Proofs Go.Proofs.YthdkjfhpbigdpaaDoorW.PrintWords Go.Proofs.YthdkjfhpbigdpaaDoorW.PrintLast Go.Proofs.YthdkjfhpbigdpaaDoorW.PrintMore
set_option linter.unusedVariables false
set_option linter.unusedSimpArgs false


def signsB : List ByteArray := [⟨#[45, 62]⟩, ⟨#[61, 61]⟩, ⟨#[92]⟩, ⟨#[46]⟩, ⟨#[40]⟩, ⟨#[41]⟩, ⟨#[61]⟩, ⟨#[123]⟩, ⟨#[125]⟩, ⟨#[124]⟩, ⟨#[43]⟩, ⟨#[45]⟩, ⟨#[42]⟩, ⟨#[47]⟩, ⟨#[60]⟩]
def signsV : Array Value := #[.string ⟨#[45, 62]⟩, .string ⟨#[61, 61]⟩, .string ⟨#[92]⟩, .string ⟨#[46]⟩, .string ⟨#[40]⟩, .string ⟨#[41]⟩, .string ⟨#[61]⟩, .string ⟨#[123]⟩, .string ⟨#[125]⟩, .string ⟨#[124]⟩, .string ⟨#[43]⟩, .string ⟨#[45]⟩, .string ⟨#[42]⟩, .string ⟨#[47]⟩, .string ⟨#[60]⟩]

theorem signs_any (w : World) :
  Calls Tryd.prog 54 #[] w fun e w' => e = .returned (.agg signsV) ∧ Below w.heap.size w w' := by
 go_enter Tryd.func54, Tryd.ntmps54
 go_wp2
 exact bodyPost_ret (v := .agg signsV) (results_cell_row rfl _ _ w.heap.size 84 signsV (0, 0) _ rfl (blk_new w _) Tryd.underlying84 rfl (by kernel_rfl)) rfl ⟨rfl, (Below.refl _ w).alloc (Nat.le_refl _) _⟩

theorem takeWhile_forall (q : UInt8 → Bool) (l : List UInt8) : ∀ c ∈ l.takeWhile q, q c = true := by
 induction l with
 | nil => intro c hc; simp at hc
 | cons a t ih =>
  intro c hc
  rw [List.takeWhile_cons] at hc
  split at hc
  ·rcases List.mem_cons.1 hc with rfl | h
   ·assumption
   ·exact ih c h
  ·simp at hc
theorem first_of_ok {l : List UInt8} {kd n : Nat} (hne : l.takeWhile HLex.wordly ≠ []) (h : HLex.named (l.takeWhile HLex.wordly) = .ok (kd, n)) : HLex.first l = .ok (kd, l.takeWhile HLex.wordly, n) := by
 unfold HLex.first; simp only [hne, if_false, h]
theorem first_of_err {l : List UInt8} {er : Nat} (hne : l.takeWhile HLex.wordly ≠ []) (h : HLex.named (l.takeWhile HLex.wordly) = .error er) : HLex.first l = .error er := by
 unfold HLex.first; simp only [hne, if_false, h]
theorem take_data (s : ByteArray) (k : Nat) : (s.extract 0 k).data.toList = s.data.toList.take k := by
 rw [Lib.extract_data]; simp
theorem prefix_take (p l : List UInt8) : p.isPrefixOf l = (decide (p.length ≤ l.length) && (l.take p.length == p)) := by
 rw [Bool.eq_iff_iff]
 simp only [List.isPrefixOf_iff_prefix, Bool.and_eq_true, decide_eq_true_eq, beq_iff_eq]
 constructor
 ·intro h; exact ⟨h.length_le, (List.prefix_iff_eq_take.1 h).symm⟩
 ·rintro ⟨_, h⟩; rw [← h]; exact List.take_prefix _ _
set_option maxHeartbeats 1000000 in
theorem hasPrefix_any (s p : ByteArray) (w : World) (hs : s.size ≤ 9223372036854775807) :
  Calls Tryd.prog 55 #[.string s, .string p] w fun e w' => e = .returned (.bool (p.data.toList.isPrefixOf s.data.toList)) ∧ w = w' := by
 have e1 : s.data.toList.length = s.size := Array.length_toList
 have e2 : p.data.toList.length = p.size := Array.length_toList
 have hp := prefix_take p.data.toList s.data.toList
 rw [e1, e2] at hp
 have HP := Lib.hid hp
 clear hp e1 e2
 by_cases hle : p.size ≤ s.size
 ·have hd : decide (p.size ≤ s.size) = true := decide_eq_true hle
  go_enter Tryd.func55, Tryd.ntmps55
  go_wp2
  go_ret
  refine ⟨?_, rfl⟩
  show Ending.returned (.bool ((s.extract 0 p.size).toList == p.toList)) = _
  rw [HP.out, hd, Bool.true_and, Lib.toList_data, Lib.toList_data, HLexC.take_data]
 ·have hd : decide (p.size ≤ s.size) = false := decide_eq_false hle
  go_enter Tryd.func55, Tryd.ntmps55
  go_wp2
  go_ret
  exact ⟨by rw [HP.out, hd]; rfl, rfl⟩
def FirstPost (s : ByteArray) (w : World) (e : Ending) (w' : World) : Prop :=
 (match HLex.first s.data.toList with
  | .ok (k, t, n) => e = .returned (.agg #[.int .i64 (k : Int), .string ⟨t.toArray⟩, .int .i64 (n : Int), .int .i64 0])
  | .error er => e = .panicked [{ v := .iface 65 (.agg #[.int .i64 (er : Int)]), recovered := false }]) ∧ Below w.heap.size w w'

set_option maxHeartbeats 2000000 in
theorem first_word (s : ByteArray) (w : World) (hmax : s.size ≤ 9223372036854775807) (hne : s.data.toList.takeWhile HLex.wordly ≠ []) :
  Calls Tryd.prog 44 #[.string s] w (FirstPost s w) := by
 have hidx := HLex.idx_run s
 have hk0 : 0 < (s.data.toList.takeWhile HLex.wordly).length := List.length_pos_iff.2 hne
 have hkl := HLex.takeWhile_len_le HLex.wordly s.data.toList
 have e1 : s.data.toList.length = s.size := Array.length_toList
 rw [e1] at hkl
 generalize hk : (s.data.toList.takeWhile HLex.wordly).length = k at *
 by_cases hlt : k < s.size
 ·rw [if_pos hlt] at hidx
  have HI := Lib.hid hidx; clear hidx
  go_enter Tryd.func44, Tryd.ntmps44
  go_wp2_with (go_at_call 50; refine (indexRun_any s _).mono ?_; rintro e w' ⟨rfl, hbl⟩; rw [HI.out])
  have hx : (s.extract 0 k).data.toList = s.data.toList.takeWhile HLex.wordly := by rw [take_data, ← hk, HLex.takeWhile_take]
  have hxs : (s.extract 0 k).size = k := by
   have : (s.extract 0 k).data.toList.length = (s.extract 0 k).size := Array.length_toList
   rw [hx] at this; omega
  have hxw : ∀ c ∈ (s.extract 0 k).data.toList, HLex.wordly c = true := by
   rw [hx]; exact takeWhile_forall _ _
  have hse : ∀ er, HLex.named (s.extract 0 k).data.toList = .error er → HLex.first s.data.toList = .error er := by
   rw [hx]; intro er h; exact first_of_err hne h
  have hso : ∀ kd n, HLex.named (s.extract 0 k).data.toList = .ok (kd, n) → HLex.first s.data.toList = .ok (kd, (s.extract 0 k).data.toList, n) := by
   rw [hx]; intro kd n h; exact first_of_ok hne h
  have HSE := Lib.hid hse
  have HSO := Lib.hid hso
  have hb0 := blk_below (blk_new w _) hbl
  have HB0 := Lib.hid hb0
  have HX := Lib.hid hxw
  clear hse hso hx hxw hb0
  generalize hxg : s.extract 0 k = x at *
  clear hxg
  refine (named_any x w' (by omega) (by omega) HX.out).mono ?_
  rintro e w2 ⟨hres, hb2⟩
  cases hnm : HLex.named x.data.toList with
  | error er =>
   rw [hnm] at hres
   have hs2 := HSE.out er hnm
   simp only at hres
   subst hres
   refine (show _ ∧ _ from ⟨rfl, ?_⟩)
   unfold FirstPost
   rw [hs2]
   exact ⟨rfl, below_step (below_step (below_alloc (Below.refl _ w) _) hbl) hb2⟩
  | ok kn =>
   obtain ⟨kd, n⟩ := kn
   rw [hnm] at hres
   have hs2 := HSO.out kd n hnm
   simp only at hres
   subst hres
   have hB2 := blk_below HB0.out hb2
   have c0 := blk_cell hB2 0; have c1 := blk_cell hB2 1; have c2 := blk_cell hB2 2; have c3 := blk_cell hB2 3
   have z0 := fun i => blk_frozen hB2 i
   replace HB0 := Lib.hid hB2
   have HS := Lib.hid hs2
   clear hB2 hs2 hnm
   simp at c0 c1 c2 c3
   go_wp2_with fail
   refine bodyPost_ret (v := .agg #[.int .i64 (kd : Int), .string x, .int .i64 (n : Int), .int .i64 0]) (results_cell_row rfl _ _ w.heap.size 33 #[.int .i64 (kd : Int), .string x, .int .i64 (n : Int), .int .i64 0] (0, 0) _ rfl (blk_put (blk_put (blk_put (blk_put HB0.out 0 _ rfl) 1 _ rfl) 2 _ rfl) 3 _ rfl) Tryd.underlying33 rfl (by kernel_rfl)) rfl ?_
   unfold FirstPost
   rw [HS.out]
   exact ⟨rfl, below_set (below_set (below_set (below_set (below_step (below_step (below_alloc (Below.refl _ w) _) hbl) hb2) (by omega)) (by omega)) (by omega)) (by omega)⟩
 ·have hks : k = s.size := by omega
  rw [if_neg hlt] at hidx
  have hall : s.data.toList.takeWhile HLex.wordly = s.data.toList := HLex.takeWhile_all (by omega)
  have HI := Lib.hid hidx; clear hidx
  go_enter Tryd.func44, Tryd.ntmps44
  go_wp2_with (go_at_call 50; refine (indexRun_any s _).mono ?_; rintro e w' ⟨rfl, hbl⟩; rw [HI.out])
  have hx : s.data.toList = s.data.toList.takeWhile HLex.wordly := hall.symm
  have hxw : ∀ c ∈ s.data.toList, HLex.wordly c = true := by
   rw [hall.symm]; exact takeWhile_forall _ _
  have hse : ∀ er, HLex.named s.data.toList = .error er → HLex.first s.data.toList = .error er := by
   intro er h; exact first_of_err hne (by rw [hall]; exact h)
  have hso : ∀ kd n, HLex.named s.data.toList = .ok (kd, n) → HLex.first s.data.toList = .ok (kd, s.data.toList, n) := by
   intro kd n h; rw [first_of_ok hne (by rw [hall]; exact h), hall]
  have HSE := Lib.hid hse
  have HSO := Lib.hid hso
  have hb0 := blk_below (blk_new w _) hbl
  have HB0 := Lib.hid hb0
  have HX := Lib.hid hxw
  clear hse hso hx hxw hb0
  clear hk hne hall e1
  refine (named_any s w' (by omega) (by omega) HX.out).mono ?_
  rintro e w2 ⟨hres, hb2⟩
  cases hnm : HLex.named s.data.toList with
  | error er =>
   rw [hnm] at hres
   have hs2 := HSE.out er hnm
   simp only at hres
   subst hres
   refine (show _ ∧ _ from ⟨rfl, ?_⟩)
   unfold FirstPost
   rw [hs2]
   exact ⟨rfl, below_step (below_step (below_alloc (Below.refl _ w) _) hbl) hb2⟩
  | ok kn =>
   obtain ⟨kd, n⟩ := kn
   rw [hnm] at hres
   have hs2 := HSO.out kd n hnm
   simp only at hres
   subst hres
   have hB2 := blk_below HB0.out hb2
   have c0 := blk_cell hB2 0; have c1 := blk_cell hB2 1; have c2 := blk_cell hB2 2; have c3 := blk_cell hB2 3
   have z0 := fun i => blk_frozen hB2 i
   replace HB0 := Lib.hid hB2
   have HS := Lib.hid hs2
   clear hB2 hs2 hnm
   simp at c0 c1 c2 c3
   go_wp2_with fail
   refine bodyPost_ret (v := .agg #[.int .i64 (kd : Int), .string s, .int .i64 (n : Int), .int .i64 0]) (results_cell_row rfl _ _ w.heap.size 33 #[.int .i64 (kd : Int), .string s, .int .i64 (n : Int), .int .i64 0] (0, 0) _ rfl (blk_put (blk_put (blk_put (blk_put HB0.out 0 _ rfl) 1 _ rfl) 2 _ rfl) 3 _ rfl) Tryd.underlying33 rfl (by kernel_rfl)) rfl ?_
   unfold FirstPost
   rw [HS.out]
   exact ⟨rfl, below_set (below_set (below_set (below_set (below_step (below_step (below_alloc (Below.refl _ w) _) hbl) hb2) (by omega)) (by omega)) (by omega)) (by omega)⟩

theorem find_lemma (l : List UInt8) (k : Nat) (hk : k < 15) (hno : ∀ j, j < k → (HLex.signs.getD j []).isPrefixOf l = false) (hyes : (HLex.signs.getD k []).isPrefixOf l = true) :
  HLex.signs.find? (fun s => s.isPrefixOf l) = some (HLex.signs.getD k []) := by
 rw [List.find?_eq_some_iff_getElem]
 refine ⟨hyes, k, hk, ?_, ?_⟩
 ·rw [List.getD_eq_getElem?_getD, List.getElem?_eq_getElem (show k < HLex.signs.length from hk)]; rfl
 ·intro j hj
  have := hno j hj
  rw [List.getD_eq_getElem?_getD, List.getElem?_eq_getElem (show j < HLex.signs.length from Nat.lt_trans hj hk)] at this
  simpa using this
theorem find_none (l : List UInt8) (hno : ∀ j, j < 15 → (HLex.signs.getD j []).isPrefixOf l = false) : HLex.signs.find? (fun s => s.isPrefixOf l) = none := by
 rw [List.find?_eq_none]
 intro x hx
 obtain ⟨j, hj, rfl⟩ := List.getElem_of_mem hx
 have := hno j hj
 rw [List.getD_eq_getElem?_getD, List.getElem?_eq_getElem hj, Option.getD_some] at this
 rw [this]; exact Bool.false_ne_true

set_option maxRecDepth 100000 in
theorem index_signs (k : Nat) (hk : k < 15) : ∀ w : World, (Instr.index 84 (.agg signsV) (.int .i64 k)).run Tryd.prog w = .ok (.string (signsB.getD k ByteArray.empty)) w := by
 have hk15 : k = 0 ∨ k = 1 ∨ k = 2 ∨ k = 3 ∨ k = 4 ∨ k = 5 ∨ k = 6 ∨ k = 7 ∨ k = 8 ∨ k = 9 ∨ k = 10 ∨ k = 11 ∨ k = 12 ∨ k = 13 ∨ k = 14 := by omega
 rcases hk15 with rfl|rfl|rfl|rfl|rfl|rfl|rfl|rfl|rfl|rfl|rfl|rfl|rfl|rfl|rfl
 all_goals exact fun w => by kernel_rfl

theorem signs_same (k : Nat) (hk : k < 15) : (signsB[k]?.getD ByteArray.empty).data.toList = HLex.signs.getD k [] := by
 have hk15 : k = 0 ∨ k = 1 ∨ k = 2 ∨ k = 3 ∨ k = 4 ∨ k = 5 ∨ k = 6 ∨ k = 7 ∨ k = 8 ∨ k = 9 ∨ k = 10 ∨ k = 11 ∨ k = 12 ∨ k = 13 ∨ k = 14 := by omega
 rcases hk15 with rfl|rfl|rfl|rfl|rfl|rfl|rfl|rfl|rfl|rfl|rfl|rfl|rfl|rfl|rfl
 all_goals rfl

set_option maxHeartbeats 4000000 in
theorem first_sign (s : ByteArray) (w : World) (hmax : s.size ≤ 9223372036854775807) (hn : 0 < s.size) (hne : s.data.toList.takeWhile HLex.wordly = []) :
  Calls Tryd.prog 44 #[.string s] w (FirstPost s w) := by
 have hidx := HLex.idx_run s
 rw [hne, List.length_nil, if_pos hn] at hidx
 have HI := Lib.hid hidx; clear hidx
 have hF1 : ∀ x, HLex.signs.find? (fun x => x.isPrefixOf s.data.toList) = some x → HLex.first s.data.toList = .ok (5, x, 0) := by
  intro o ho; unfold HLex.first; simp only [hne, if_true, ho]
 have hF2 : HLex.signs.find? (fun x => x.isPrefixOf s.data.toList) = none → HLex.first s.data.toList = .error 10 := by
  intro ho; unfold HLex.first; simp only [hne, if_true, ho]
 have HF1 := Lib.hid hF1; have HF2 := Lib.hid hF2; clear hF1 hF2 hne
 go_enter Tryd.func44, Tryd.ntmps44
 go_wp2_with (first|(go_at_call 50; refine (indexRun_any s _).mono ?_; rintro e w' ⟨rfl, hbl⟩; rw [HI.out]) | (go_at_call 54; refine (signs_any _).mono ?_; rintro e w2 ⟨rfl, hb2⟩))
 go_loop [5, 19] (fun _ i => ∃ k : Nat, k ≤ 15 ∧ i = .int .i64 k ∧ Hid (∀ j, j < k → (HLex.signs.getD j []).isPrefixOf s.data.toList = false)) (fun _ i => 15 - (intOf i).toNat)
 case atStart => exact ⟨0, by omega, rfl, Lib.hid (fun j hj => absurd hj (Nat.not_lt_zero _))⟩
 case round =>
  obtain ⟨k, hk, rfl, hno⟩ := hrel
  by_cases hlt : k < 15
  ·have hix := index_signs k hlt
   have hsk := signs_same k hlt
   have hb0 := blk_below (blk_below (blk_new w _) hbl) hb2
   have c0 := blk_cell hb0 0; have c1 := blk_cell hb0 1; have c2 := blk_cell hb0 2; have c3 := blk_cell hb0 3
   have z0 := fun i => blk_frozen hb0 i
   have HB0 := Lib.hid hb0; have HSK := Lib.hid hsk
   clear hb0 hsk
   simp at c0 c1 c2 c3
   cases hp : (HLex.signs.getD k []).isPrefixOf s.data.toList
   ·have HP := Lib.hid hp
    clear hp
    go_wp2_with (go_at_call 55; refine (hasPrefix_any s _ _ hmax).mono ?_; rintro e w3 ⟨rfl, rfl⟩; rw [show (signsB[k]?.getD ByteArray.empty).data.toList = HLex.signs.getD k [] from HSK.out, HP.out])
    go_round
    case rel =>
     refine ⟨k + 1, by omega, by go_num, Lib.hid (fun j hj => ?_)⟩
     rcases Nat.lt_succ_iff_lt_or_eq.1 hj with h|rfl
     ·exact hno.out j h
     ·exact HP.out
    case measure => simp [intOf]; omega
   ·have HP := Lib.hid hp
    clear hp
    go_wp2_with (go_at_call 55; refine (hasPrefix_any s _ _ hmax).mono ?_; rintro e w3 ⟨rfl, rfl⟩; rw [show (signsB[k]?.getD ByteArray.empty).data.toList = HLex.signs.getD k [] from HSK.out, HP.out])
    have hf := HF1.out _ (find_lemma _ k hlt hno.out HP.out)
    have hx : (⟨(HLex.signs.getD k []).toArray⟩ : ByteArray) = signsB[k]?.getD ByteArray.empty := by rw [← HSK.out]
    refine bodyPost_ret (v := .agg #[.int .i64 5, .string (signsB[k]?.getD ByteArray.empty), .int .i64 0, .int .i64 0]) (results_cell_row rfl _ _ w.heap.size 33 #[.int .i64 5, .string (signsB[k]?.getD ByteArray.empty), .int .i64 0, .int .i64 0] (0, 0) _ rfl (blk_put (blk_put (blk_put (blk_put HB0.out 0 _ rfl) 1 _ rfl) 2 _ rfl) 3 _ rfl) Tryd.underlying33 rfl (by kernel_rfl)) rfl ?_
    unfold FirstPost
    rw [hf]
    simp only [hx]
    exact ⟨rfl, below_set (below_set (below_set (below_set (below_step (below_step (below_alloc (Below.refl _ w) _) hbl) hb2) (by omega)) (by omega)) (by omega)) (by omega)⟩
  ·go_wp2_with fail
   have hf := HF2.out (find_none _ (fun j hj => hno.out j (by omega)))
   refine (show _ ∧ _ from ⟨rfl, ?_⟩)
   unfold FirstPost
   rw [hf]
   exact ⟨rfl, below_step (below_step (below_alloc (Below.refl _ w) _) hbl) hb2⟩

theorem first_any (s : ByteArray) (w : World) (hmax : s.size ≤ 9223372036854775807) (hn : 0 < s.size) :
  Calls Tryd.prog 44 #[.string s] w (FirstPost s w) := by
 by_cases hne : s.data.toList.takeWhile HLex.wordly = []
 ·exact first_sign s w hmax hn hne
 ·exact first_word s w hmax hne
end Go.Proofs.YthdkjfhpbigdpaaDoor.HLexC

/- The walk of lex.All (and of its deferred function), in the words of HLex. -/
namespace Go.Proofs.YthdkjfhpbigdpaaDoor.HLexC
open Go Go.RowKit Go.Lib Go.Proofs Go.Proofs.YthdkjfhpbigdpaaDoorW.PrintWords Go.Proofs.YthdkjfhpbigdpaaDoorW.PrintLast Go.Proofs.YthdkjfhpbigdpaaDoorW.PrintMore Go.Proofs.YthdkjfhpbigdpaaDoor.Q
set_option linter.unusedVariables false
set_option linter.unusedSimpArgs false

set_option maxRecDepth 100000 in
theorem wrong_neq (er : Int) : ∀ W : World, (binOp .neq 20 (.iface 65 (.agg #[.int .i64 er])) .nilIface).run Tryd.prog W = .ok (.bool true) W := fun W => run_neq_held_nil _ _ _ _ (by kernel_rfl)
set_option maxRecDepth 100000 in
theorem wrong_assert (er : Int) : ∀ W : World, (Instr.typeAssert (.iface 65 (.agg #[.int .i64 er])) 20 65 true).run Tryd.prog W = .ok (.tuple #[.agg #[.int .i64 er], .bool true]) W := fun W => by rfl
set_option maxRecDepth 100000 in
theorem nil_neq : ∀ W : World, (binOp .neq 20 .nilIface .nilIface).run Tryd.prog W = .ok (.bool false) W := fun W => run_neq_nil_nil _ _ (by kernel_rfl)
set_option maxHeartbeats 1000000 in
theorem catch_panicking (g0 g1 : Nat) (er : Int) (v0 v1 : Value) (older : List PanicEntry) (w : World)
  (h0 : w.heap[g0]? = some (.cells #[v0] 57 (0, 0))) (h1 : w.heap[g1]? = some (.cells #[v1] 34 (0, 0))) (hne : g0 ≠ g1) :
  CallsD Tryd.prog 42 #[.pointer (some ⟨g0, 0, none⟩), .pointer (some ⟨g1, 0, none⟩)] (.panicking ({ v := .iface 65 (.agg #[.int .i64 er]), recovered := false } :: older)) w fun e u' w' =>
   e = .returned (.tuple #[]) ∧ u' = .panicking ({ v := .iface 65 (.agg #[.int .i64 er]), recovered := true } :: older) ∧
    w'.heap[g0]? = some (.cells #[.slice none 0 0] 57 (0, 0)) ∧ w'.heap[g1]? = some (.cells #[.int .i64 er] 34 (0, 0)) ∧ (∀ B, B ≤ g0 → B ≤ g1 → B ≤ w.heap.size → Below B w w') := by
 refine callsD_of_wpS Tryd.func42 rfl fun c₀ cs hu => ?_
 apply wpS_seq
 apply wpS_region
 simp [wpOpsS, go_sem, recoverD, hu, Tryd.ntmps42, Exit.thenS]
 have f0 : w.frozen? ⟨g0, 0, none⟩ = false := blk_frozen h0 0
 have f1 : w.frozen? ⟨g1, 0, none⟩ = false := blk_frozen h1 0
 have hneq := wrong_neq er
 have hta := wrong_assert er
 refine wpS_of_wp (wp_mono (Q := fun e a' w' => e = .normal ∧ a'.defers = [] ∧ (w'.heap[g0]? = some (.cells #[.slice none 0 0] 57 (0, 0)) ∧ w'.heap[g1]? = some (.cells #[.int .i64 er] 34 (0, 0)) ∧ (∀ B, B ≤ g0 → B ≤ g1 → B ≤ w.heap.size → Below B w w'))) ?_ ?_)
 ·clear hu
  trace "1"
  rw [show (#[Value.pointer (some { block := g0, off := 0 }), Value.pointer (some { block := g1, off := 0 })] ++ ((Array.replicate 16 undef).setIfInBounds 3 (Value.iface 65 (Value.agg #[Value.int IntKind.i64 er]))).setIfInBounds 0 (Value.iface 65 (Value.agg #[Value.int IntKind.i64 er]))) = #[Value.pointer (some { block := g0, off := 0 }), Value.pointer (some { block := g1, off := 0 }), (Value.iface 65 (Value.agg #[Value.int IntKind.i64 er])), undef, undef, (Value.iface 65 (Value.agg #[Value.int IntKind.i64 er])), undef, undef, undef, undef, undef, undef, undef, undef, undef, undef, undef, undef] from rfl]
  go_wp2_with fail
  have l0 := blk_lt h0
  have l1 := blk_lt h1
  have n0 : ¬ w.heap.size = g0 := by omega
  have n1 : ¬ w.heap.size = g1 := by omega
  have n0' : ¬ g0 = w.heap.size := by omega
  have n1' : ¬ g1 = w.heap.size := by omega
  have c0 := blk_cell h0 0
  have c1 := blk_cell h1 0
  simp at c0 c1
  have H0 := Lib.hid h0; have H1 := Lib.hid h1; clear h0 h1
  go_region
  exact ⟨rfl, rfl, blk_drew (blk_alloc (blk_far (p := ⟨g1, 0, none⟩) (blk_put H0.out 0 _ rfl) hne _) _), blk_drew (blk_alloc (blk_put (blk_far (p := ⟨g0, 0, none⟩) H1.out (Ne.symm hne) _) 0 _ rfl) _), fun B b0 b1 b2 => ((((Below.refl B w).setCell b0 _).setCell b1 _).alloc (by simpa using b2) _).drew⟩
 ·rintro e a' w' ⟨rfl, hd, h2, h3, h4⟩
  exact ⟨hd, _, rfl, .tuple #[], by simp [results, Tryd.results42, go_sem], rfl, rfl, h2, h3, h4⟩

theorem catch_idle (g0 g1 : Nat) (w : World) :
  CallsD Tryd.prog 42 #[.pointer (some ⟨g0, 0, none⟩), .pointer (some ⟨g1, 0, none⟩)] .returning w fun e u' w' => e = .returned (.tuple #[]) ∧ u' = .returning ∧ w' = w := by
 refine callsD_of_wpS Tryd.func42 rfl fun c₀ cs hu => ?_
 apply wpS_seq
 apply wpS_region
 simp [wpOpsS, go_sem, recoverD, hu, Tryd.ntmps42, Exit.thenS]
 refine wpS_of_wp (wp_mono (Q := fun e a' w' => e = .normal ∧ a'.defers = [] ∧ w' = w) ?_ ?_)
 ·have hneq := nil_neq
  rw [show (#[Value.pointer (some { block := g0, off := 0 }), Value.pointer (some { block := g1, off := 0 })] ++ ((Array.replicate 16 undef).setIfInBounds 3 Value.nilIface).setIfInBounds 0 Value.nilIface) = #[Value.pointer (some { block := g0, off := 0 }), Value.pointer (some { block := g1, off := 0 }), Value.nilIface, undef, undef, Value.nilIface, undef, undef, undef, undef, undef, undef, undef, undef, undef, undef, undef, undef] from rfl]
  go_wp2_with fail
 ·rintro e a' w' ⟨rfl, hd, rfl⟩
  exact ⟨hd, .returning, by rw [← hu], .tuple #[], by simp [results, Tryd.results42, go_sem], rfl, rfl, rfl⟩

def toS (t : HLex.Tok) : S33 := ⟨(t.kind : Int), ⟨t.text.toArray⟩, (t.n : Int), (t.pos : Int)⟩
def join (acc : List HLex.Tok) : Except (Nat × Nat) (List HLex.Tok) → Except (Nat × Nat) (List HLex.Tok)
 | .ok ts => .ok (acc ++ ts)
 | .error x => .error x
def AllPost (s : ByteArray) (w : World) (e : Ending) (w' : World) : Prop :=
 match HLex.lex s.data.toList with
 | .ok ts => ∃ v, e = .returned (.tuple #[v, .int .i64 0, .int .i64 0]) ∧ Kd.R k33 33 w' w.heap.size (fun _ => True) v (ts.map toS) ∧ Below w.heap.size w w'
 | .error (p, er) => e = .returned (.tuple #[.slice none 0 0, .int .i64 (p : Int), .int .i64 (er : Int)]) ∧ Below w.heap.size w w'

theorem trim_any (x : ByteArray) (w : World) : Calls Tryd.prog 43 #[.string x, .string ⟨#[32, 10, 9]⟩] w fun e w' => (∃ y : ByteArray, e = .returned (.string y) ∧ Hid (y.data.toList = x.data.toList.dropWhile HLex.blank)) ∧ Below w.heap.size w w' :=
 (Tryd.TrimLeft_set x ⟨#[32, 10, 9]⟩ w (by decide) (ascii_of_all (by decide))).mono fun e w' ⟨he, hb⟩ => ⟨⟨_, he, Lib.hid (HLex.trim_blank _)⟩, hb⟩
theorem drop_data (s : ByteArray) (k : Nat) : (s.extract k s.size).data.toList = s.data.toList.drop k := Lib.extract_to_end s k
theorem dropWhile_len (q : UInt8 → Bool) (l : List UInt8) : (l.dropWhile q).length ≤ l.length := (List.dropWhile_suffix q).length_le

structure AllInv (s : ByteArray) (w : World) (gk at_ : Nat) (acc : List HLex.Tok) (lv : Value) (wr : World) : Prop where
 lex : HLex.lex s.data.toList = join acc (HLex.lexFrom gk at_ (s.data.toList.drop at_))
 len : acc.length ≤ at_
 hl : wr.heap[w.heap.size]? = some (.cells #[lv] 57 (0, 0))
 he : wr.heap[w.heap.size + 1]? = some (.cells #[.int .i64 0] 34 (0, 0))
 row : Kd.R k33 33 wr (w.heap.size + 2) (fun _ => True) lv (acc.map toS)
 bel : Below w.heap.size w wr

theorem infoTok : (Tryd.prog.info? 33).map (fun i => (i.zero, i.size, i.bytes)) = some (some (.agg #[(.int .i64 0), (.string ⟨#[]⟩), (.int .i64 0), (.int .i64 0)]), 4, 40) := by kernel_rfl
set_option maxRecDepth 100000 in
set_option maxHeartbeats 4000000 in
theorem all_any (s : ByteArray) (w : World) (hmax : s.size ≤ 1000000000000) :
  Calls Tryd.prog 38 #[.string s] w (AllPost s w) := by
 have hmf : ∀ (fn : Fn) (first cap : Array Value) (w : World), (Instr.makeFunc fn first cap).run Tryd.prog w = .ok (.func fn first cap) w := fun _ _ _ _ => rfl
 go_enter_defers Tryd.func38, Tryd.ntmps38
 go_wp2_with fail
 go_loopg [3] (s.size + 1) (fun gk v3 wr => ∃ (at_ : Nat) (acc : List HLex.Tok) (lv : Value), v3 = .int .i64 at_ ∧ at_ ≤ s.size ∧ s.size - at_ < gk ∧ AllInv s w gk at_ acc lv wr)
 case atStart =>
  refine ⟨0, [], .slice none 0 0, rfl, Nat.zero_le _, by omega, ?_, Nat.le_refl _, ?_, ?_, Kd.R_nil _ _ _ _ _, ?_⟩
  ·unfold HLex.lex
   have e1 : s.data.toList.length = s.size := Array.length_toList
   rw [e1, List.drop_zero]
   cases HLex.lexFrom (s.size + 1) 0 s.data.toList <;> rfl
  ·exact blk_alloc (blk_new w _) _
  ·have h := blk_new (w.alloc (Obj.cells #[Value.slice none 0 0] 57)) (Obj.cells #[Value.int IntKind.i64 0] 34)
   rw [World.size_alloc] at h
   exact h
  ·exact below_alloc (below_alloc (Below.refl _ w) _) _
 case round =>
  obtain ⟨at_, acc, lv, rfl, hle, hgk, hinv⟩ := hrel
  have e1 : s.data.toList.length = s.size := Array.length_toList
  have hrl := dropWhile_len HLex.blank (s.data.toList.drop at_)
  rw [List.length_drop, e1] at hrl
  have hcl := blk_cell hinv.hl 0; have hce := blk_cell hinv.he 0
  have hfl := blk_frozen hinv.hl 0; have hfe := blk_frozen hinv.he 0
  simp at hcl hce
  cases hr : (s.data.toList.drop at_).dropWhile HLex.blank
  ·rw [hr] at hrl
   have HR := Lib.hid hr; clear hr
   have E1 := Lib.hid e1; clear e1
   go_upto_region 3 with (fail)
   refine (trim_any _ _).mono ?_
   rintro e w2 ⟨⟨y, rfl, hy⟩, hb2⟩
   have hyl := hy.out
   rw [drop_data, HR.out] at hyl
   have hy0 : y = ⟨#[]⟩ := (bytes_eq_iff y ⟨#[]⟩).2 hyl
   subst hy0
   clear hy hyl
   have hl2 := blk_below hinv.hl hb2
   have he2 := blk_below hinv.he hb2
   have hr2 := Kd.R_below hinv.row hb2
   have hB2 := below_step hinv.bel hb2
   have hlex := hinv.lex
   obtain ⟨gk, rfl⟩ : ∃ g, gk = g + 1 := ⟨gk - 1, by omega⟩
   unfold HLex.lexFrom at hlex
   rw [HR.out] at hlex
   simp only [if_true] at hlex
   have k2 := blk_cell hl2 0; have k3 := blk_cell he2 0; have z2 := blk_frozen hl2 0; have z3 := blk_frozen he2 0
   simp at k2 k3
   have HL2 := Lib.hid hl2; have HE2 := Lib.hid he2; have HR2 := Lib.hid hr2; have HB2 := Lib.hid hB2; have HLEX := Lib.hid hlex
   obtain ⟨A1, c1, hlv⟩ := Kd.R_slice hr2
   clear hl2 he2 hr2 hB2 hlex hfe hfl hcl hce
   go_wp2_with fail
   have m0 := blk_far (p := ⟨w.heap.size + 1, 0, none⟩) (blk_put HL2.out 0 (.slice A1 acc.length c1) rfl) (by simp) (.int .i64 0)
   have m1 := blk_put (blk_far (p := ⟨w.heap.size, 0, none⟩) HE2.out (by simp) (.slice A1 acc.length c1)) 0 (.int .i64 0) rfl
   have k4 : ((w2.setCell ⟨w.heap.size, 0, none⟩ (.slice A1 acc.length c1)).setCell ⟨w.heap.size + 1, 0, none⟩ (.int .i64 0)).cell? ⟨w.heap.size, 0, none⟩ = some (.slice A1 acc.length c1) := blk_cell m0 0
   have k5 : ((w2.setCell ⟨w.heap.size, 0, none⟩ (.slice A1 acc.length c1)).setCell ⟨w.heap.size + 1, 0, none⟩ (.int .i64 0)).cell? ⟨w.heap.size + 1, 0, none⟩ = some (.int .i64 0) := blk_cell m1 0
   refine leaves_cons (f := 42) (args := #[.pointer (some ⟨w.heap.size, 0, none⟩), .pointer (some ⟨w.heap.size + 1, 0, none⟩)]) (by simp) (by simp [go_sem]) ?_
   refine (catch_idle _ _ _).mono ?_
   rintro e u' w4 ⟨rfl, rfl, rfl⟩
   have HLV := Lib.hid hlv
   clear k2 k3 z2 z3 hlv m0 m1
   simp [Leaves, settle, results, Tryd.results38, go_sem, k4, k5]
   unfold AllPost
   rw [HLEX.out]
   have h := Kd.R_mono (Kd.R_far (p := ⟨w.heap.size + 1, 0, none⟩) (Kd.R_mono (Kd.R_far (p := ⟨w.heap.size, 0, none⟩) (Kd.R_bound HR2.out) (fun k hk => by have := hk.2.1; simp; omega) (.slice A1 acc.length c1)) (fun k hk => (hk.2.1 : w.heap.size + 2 ≤ k))) (fun k hk => by simp; omega) (.int .i64 0)) (fun _ _ => trivial)
   rw [HLV.out] at h
   exact ⟨_, rfl, by simpa [List.length_map] using Kd.R_lower h (Nat.le_add_right _ 2), (HB2.out.setCell (Nat.le_refl _) _).setCell (Nat.le_succ _) _⟩
  ·rename_i c0 r0
   rw [hr] at hrl
   rw [List.length_cons] at hrl
   have HR := Lib.hid hr; clear hr
   have E1 := Lib.hid e1; clear e1
   go_upto_region 3 with (fail)
   refine (trim_any _ _).mono ?_
   rintro e w2 ⟨⟨y, rfl, hy⟩, hb2⟩
   have hyl := hy.out
   rw [drop_data, HR.out] at hyl
   have hyz : y.data.toList.length = r0.length + 1 := by rw [hyl, List.length_cons]
   rw [Array.length_toList] at hyz
   have hyz' : y.size = r0.length + 1 := hyz
   have q2 : 0 < y.size := by omega
   have q3 : y.size ≤ s.size - at_ := by omega
   have hpz : ((s.size : Int) - (y.size : Int)) = ((s.size - y.size : Nat) : Int) := by omega
   have hp1 : s.size - y.size < s.size := by omega
   have hp2 : at_ ≤ s.size - y.size := by omega
   have hpd : s.data.toList.drop (s.size - y.size) = c0 :: r0 := by
    have hs := List.dropWhile_suffix HLex.blank (l := s.data.toList.drop at_)
    rw [HR.out] at hs
    have hs2 := hs.trans (List.drop_suffix at_ s.data.toList)
    have := List.suffix_iff_eq_drop.1 hs2
    rw [List.length_cons, E1.out, ← hyz'] at this
    exact this.symm
   have HP := Lib.hid hpz
   have HPD := Lib.hid hpd
   have HYZ := Lib.hid hyz'
   clear hy hyl hyz hyz' hpz hpd
   go_upto_region 3 with (fail)
   rw [HP.out]
   generalize hpg : s.size - y.size = p at *
   have HPG := Lib.hid hpg
   clear hpg
   go_upto_region 6 with (fail)
   have hxd : (s.extract p s.size).data.toList = c0 :: r0 := by rw [drop_data, HPD.out]
   have hxz : (s.extract p s.size).size = r0.length + 1 := by
    have : (s.extract p s.size).data.toList.length = (s.extract p s.size).size := Array.length_toList
    rw [hxd, List.length_cons] at this; exact this.symm
   refine (first_any (s.extract p s.size) w2 (by omega) (by omega)).mono ?_
   rintro e w3 ⟨hres, hb3⟩
   rw [hxd] at hres
   have hl3 := blk_below (blk_below hinv.hl hb2) hb3
   have he3 := blk_below (blk_below hinv.he hb2) hb3
   have hr3 := Kd.R_below (Kd.R_below hinv.row hb2) hb3
   have hB3 := below_step (below_step hinv.bel hb2) hb3
   have hlex := hinv.lex
   have hlen := hinv.len
   obtain ⟨gk, rfl⟩ : ∃ g, gk = g + 1 := ⟨gk - 1, by omega⟩
   unfold HLex.lexFrom at hlex
   rw [HR.out] at hlex
   simp only [reduceCtorEq, if_false] at hlex
   have hpos : at_ + ((List.drop at_ s.data.toList).length - (c0 :: r0).length) = p := by
    rw [List.length_drop, List.length_cons, E1.out]
    have := HPG.out; have := HYZ.out; omega
   rw [hpos] at hlex
   cases hfs : HLex.first (c0 :: r0) with
   | error er =>
    rw [hfs] at hres hlex
    simp only at hres hlex
    subst hres
    refine leaves_cons (f := 42) (args := #[.pointer (some ⟨w.heap.size, 0, none⟩), .pointer (some ⟨w.heap.size + 1, 0, none⟩)]) (by simp) (by simp [go_sem]) ?_
    refine (catch_panicking w.heap.size (w.heap.size + 1) er lv (.int .i64 0) [] w3 hl3 he3 (by omega)).mono ?_
    rintro e u' w4 ⟨rfl, rfl, h2, h3, h4⟩
    have k2 := blk_cell h2 0; have k3 := blk_cell h3 0
    simp at k2 k3
    clear hfe hfl hcl hce hl3 he3
    simp [Leaves, settle, results, Tryd.results38, go_sem, k2, k3]
    unfold AllPost
    rw [hlex]
    exact ⟨rfl, hB3.trans (h4 _ (Nat.le_refl _) (by omega) hB3.size)⟩
   | ok ktn =>
    obtain ⟨k, tx, n⟩ := ktn
    rw [hfs] at hres hlex
    simp only at hres hlex
    subst hres
    simp only
    have hpre := HLex.first_prefix hfs
    have htx1 : tx.length ≤ r0.length + 1 := by have := hpre.1.length_le; rwa [List.length_cons] at this
    have htx0 : 0 < tx.length := List.length_pos_iff.2 hpre.2
    have hend : p + tx.length ≤ s.size := by have := HPG.out; have := HYZ.out; omega
    clear hpre
    go_upto_region 7 with (fail)
    have hl4 := blk_alloc hl3 (Obj.cells #[Value.int IntKind.i64 ↑k, Value.string { data := tx.toArray }, Value.int IntKind.i64 ↑n, Value.int IntKind.i64 ↑p] 33)
    have he4 := blk_alloc he3 (Obj.cells #[Value.int IntKind.i64 ↑k, Value.string { data := tx.toArray }, Value.int IntKind.i64 ↑n, Value.int IntKind.i64 ↑p] 33)
    have hr4 := Kd.R_alloc hr3 (Obj.cells #[Value.int IntKind.i64 ↑k, Value.string { data := tx.toArray }, Value.int IntKind.i64 ↑n, Value.int IntKind.i64 ↑p] 33)
    have hB4 := below_alloc hB3 (Obj.cells #[Value.int IntKind.i64 ↑k, Value.string { data := tx.toArray }, Value.int IntKind.i64 ↑n, Value.int IntKind.i64 ↑p] 33)
    have ht4 := blk_new w3 (Obj.cells #[Value.int IntKind.i64 ↑k, Value.string { data := tx.toArray }, Value.int IntKind.i64 ↑n, Value.int IntKind.i64 ↑p] 33)
    have hne4 : some w3.heap.size ≠ lv.ownBlock := fun e_ => by have := ((Kd.R_bound hr3).1 _ e_.symm).2.2.1; omega
    have c2 := blk_cell hl4 0
    have d0 := blk_cell ht4 0; have d1 := blk_cell ht4 1; have d2 := blk_cell ht4 2; have d3 := blk_cell ht4 3
    simp only [List.getElem?_toArray, List.getElem?_cons_zero, List.getElem?_cons_succ] at c2 d0 d1 d2 d3
    have hsz4 := hB4.size
    have hsz3 := hB3.size
    have hw3 : w.heap.size + 2 ≤ w3.heap.size := by have := blk_lt he3; omega
    have HL4 := Lib.hid hl4; have HE4 := Lib.hid he4; have HR4 := Lib.hid hr4; have HB4 := Lib.hid hB4; have HT4 := Lib.hid ht4; have HLEX := Lib.hid hlex; have HN4 := Lib.hid hne4
    clear hfe hfl hcl hce hl3 he3 hr3 hB3 hl4 he4 hr4 hB4 ht4 hlex hfs hpos hne4 hsz4
    have hlenm : ((List.map toS acc).length + 1) * 40 ≤ 140737488355328 := by rw [List.length_map]; omega
    go_wp2_with (at_builtin; go_loud (refine Kd.R_append k33 (w0 := w3.alloc (Obj.cells #[Value.int IntKind.i64 ↑k, Value.string { data := tx.toArray }, Value.int IntKind.i64 ↑n, Value.int IntKind.i64 ↑p] 33)) (w.heap.size + 2) rfl (.tmp 26) (.tmp 28) 57 33 (.agg #[(.int .i64 0), (.string ⟨#[]⟩), (.int .i64 0), (.int .i64 0)]) 40 rfl Tryd.underlying57 infoTok rfl (by decide) (by omega) lv (acc.map toS) (⟨(k : Int), ⟨tx.toArray⟩, (n : Int), (p : Int)⟩ : S33) [.int .i64 k, .string ⟨tx.toArray⟩, .int .i64 n, .int .i64 p] (fun _ => True) (fun _ => False) rfl (by first|(go_simp; done)|(go_simp; rfl)) (k33_mkM _ _ _ _) (fun _ hk => hk.elim) (fun _ _ => trivial) HR4.out (Below.refl _ _) (by simp; omega) hlenm ?_); intro v1 w5 ho hb hg hat; obtain ⟨A1, c1, rfl⟩ := Kd.R_slice ho; have hl5 := (hb.block w.heap.size (by omega)).trans HL4.out; have he5 := (hb.block (w.heap.size + 1) (by omega)).trans HE4.out; have ht5 := blk_grown HT4.out hg HN4.out; have e2 := blk_cell hl5 0; have f2 := blk_frozen hl5 0; have e5 := blk_cell ht5 1; simp only [List.getElem?_toArray, List.getElem?_cons_zero, List.getElem?_cons_succ] at e2 e5; have HL5 := Lib.hid hl5; have HE5 := Lib.hid he5; have HO := Lib.hid ho; have HBB := Lib.hid hb; clear hl5 he5 ht5 ho hb hg hat)
    go_roundg gk
    case measure => omega
    case rel =>
     refine ⟨p + tx.length, acc ++ [⟨k, tx, n, p⟩], .slice A1 (acc.length + 1) c1, by go_num, hend, by omega, ?_, ?_, ?_, ?_, ?_, ?_⟩
     ·rw [HLEX.out]
      have hd : List.drop (p + tx.length) s.data.toList = List.drop tx.length (c0 :: r0) := by rw [← HPD.out, List.drop_drop]
      rw [hd]
      cases HLex.lexFrom gk (p + tx.length) (List.drop tx.length (c0 :: r0)) with
      | ok ts => simp [join]
      | error e => simp [join]
     ·rw [List.length_append, List.length_singleton]; omega
     ·exact blk_put HL5.out 0 _ rfl
     ·exact blk_far (p := ⟨w.heap.size, 0, none⟩) HE5.out (by simp) _
     ·rw [List.map_append]
      have h := Kd.R_mono (Kd.R_far (p := ⟨w.heap.size, 0, none⟩) (Kd.R_bound HO.out) (fun k hk => by have := hk.2.1; simp; omega) (.slice A1 (acc.length + 1) c1)) (fun _ _ => trivial)
      simpa [List.length_map, toS] using h
     ·exact (HB4.out.trans (HBB.out.mono (by omega))).setCell (Nat.le_refl _) _
end Go.Proofs.YthdkjfhpbigdpaaDoor.HLexC

namespace Go.Proofs.YthdkjfhpbigdpaaDoor.Q
open Go.RowKit Go.Proofs.YthdkjfhpbigdpaaDoorW.PrintWords Go.Proofs.YthdkjfhpbigdpaaDoorW.PrintLast Go.Proofs.YthdkjfhpbigdpaaDoorW.PrintMore
attribute [local go_sem] max2_int min2_int max_two min_two max_three min_three max_four min_four
set_option linter.unusedVariables false
set_option linter.unusedSimpArgs false

def lex_All.f (a0 : ByteArray) : Option ((List S33) × Int × Int) :=
 if a0.size ≤ 1000000000000 then
  match HLex.lex a0.data.toList with
  | .ok ts => some (ts.map HLexC.toS, 0, 0)
  | .error (p, er) => some ([], (p : Int), (er : Int))
 else none
theorem lex_All.calls (a0 : ByteArray) (r1 : List S33) (r2 : Int) (r3 : Int) (w : World) (h : lex_All.f a0 = some (r1, r2, r3)) :
  Calls Tryd.prog 38 #[.string a0] w fun e w' => ∃ v0_ : Value, e = .returned (.tuple #[v0_, .int .i64 r2, .int .i64 r3]) ∧ Kd.R k33 33 w' w.heap.size (fun _ => True) v0_ r1 ∧ Below w.heap.size w w' := by
 unfold lex_All.f at h
 by_cases hs : a0.size ≤ 1000000000000
 ·rw [if_pos hs] at h
  refine (HLexC.all_any a0 w hs).mono fun e w' hp => ?_
  unfold HLexC.AllPost at hp
  cases hl : HLex.lex a0.data.toList with
  | ok ts =>
   rw [hl] at h hp
   simp only [Option.some.injEq, Prod.mk.injEq] at h
   obtain ⟨rfl, rfl, rfl⟩ := h
   exact hp
  | error x =>
   obtain ⟨p, er⟩ := x
   rw [hl] at h hp
   simp only [Option.some.injEq, Prod.mk.injEq] at h
   obtain ⟨rfl, rfl, rfl⟩ := h
   exact ⟨_, hp.1, Kd.R_nil _ _ _ _ _, hp.2⟩
 ·rw [if_neg hs] at h; cases h

end Go.Proofs.YthdkjfhpbigdpaaDoor.Q

namespace Go.Proofs.YthdkjfhpbigdpaaDoor.Q
open Go.RowKit Go.Proofs.YthdkjfhpbigdpaaDoorW.PrintWords Go.Proofs.YthdkjfhpbigdpaaDoorW.PrintLast Go.Proofs.YthdkjfhpbigdpaaDoorW.PrintMore
attribute [local go_sem] max2_int min2_int max_two min_two max_three min_three max_four min_four
set_option linter.unusedVariables false
set_option linter.unusedSimpArgs false

def tree_token.f (a0 : ByteArray) (a1 : Int) : Option (Bool) := (lex_All.f a0).bind fun bt136 => (if (bt136.1.length : Int) = 1 then (if 0 < (bt136.1.length : Int) then (if ((rd_T33 bt136.1 0).f0) = a1 then (some (((rd_T33 bt136.1 0).f1).toList == a0.toList)) else (some false)) else (none)) else (some false))
set_option maxHeartbeats 8000000 in
set_option maxRecDepth 100000 in
theorem tree_token.calls (a0 : ByteArray) (a1 : Int) (r : Bool) (w : World) (h : tree_token.f a0 a1 = some r) :
  Calls Tryd.prog 34 #[.string a0, .int .i64 a1] w fun e w' => e = .returned (.bool r) ∧ Below w.heap.size w w' := by
 have HB := Aside0.mk (Below.refl w.heap.size w)
 have H : ((lex_All.f a0).bind fun bt136 => (if (bt136.1.length : Int) = 1 then (if 0 < (bt136.1.length : Int) then (if ((rd_T33 bt136.1 0).f0) = a1 then (some (((rd_T33 bt136.1 0).f1).toList == a0.toList)) else (some false)) else (none)) else (some false))) = some r := h
 clear h
 replace H := Option.bind_eq_some_iff.mp H
 obtain ⟨⟨t136, t137, t138⟩, A30, H⟩ := H
 replace H : (if (t136.length : Int) = 1 then (if 0 < (t136.length : Int) then (if ((rd_T33 t136 0).f0) = a1 then (some (((rd_T33 t136 0).f1).toList == a0.toList)) else (some false)) else (none)) else (some false)) = some r := H
 have A3 := Aside0.mk A30
 clear A30
 by_cases c4 : (t136.length : Int) = 1
 ·rw [if_pos c4] at H
  have c4b0 : ((t136.length : Int) == 1) = true := beq_iff_eq.mpr c4
  have c4b1 : ((t136.length : Int) != 1) = false := bne_eq_false_iff_eq.mpr c4
  clear c4
  by_cases c5 : 0 < (t136.length : Int)
  ·rw [if_pos c5] at H
   have c5b0 : decide (0 < (t136.length : Int)) = true := decide_eq_true c5
   have c5b1 : decide (0 < t136.length) = true := decide_eq_true (by omega)
   clear c5
   by_cases c6 : ((rd_T33 t136 0).f0) = a1
   ·rw [if_pos c6] at H
    have c6b0 : (((rd_T33 t136 0).f0) == a1) = true := beq_iff_eq.mpr c6
    have c6b1 : (((rd_T33 t136 0).f0) != a1) = false := bne_eq_false_iff_eq.mpr c6
    clear c6
    obtain rfl := Option.some.inj H
    go_enter Tryd.func34, Tryd.ntmps34
    go_wp2_with (first|((with_reducible refine gate_callee (f := 38) rfl ?_); refine goesL_ (some 10) rfl rfl Tryd.func38 (by kernel_rfl) rfl #[.string a0] rfl (by (try simp only [List.map_toArray, List.map_cons, List.map_nil]); first|done|rfl|(simp only [List.length_drop, List.length_take]; rfl)) ?_; (with_reducible refine (lex_All.calls a0 t136 t137 t138 _ A3.out).mono ?_); rintro e w7 ⟨v139, rfl, ho0, hb⟩; refine ⟨_, rfl, ?_⟩; have n0_ := Aside0.mk (Kd.R_lower ho0 (below_size (by repeat (first|(with_reducible first|exact HB.out|apply below_alloc|apply pw_below_drewN|apply below_drew1)|exact HB.out)))); have n1_ := Aside0.mk (below_step (by repeat (first|(with_reducible first|exact HB.out|apply below_alloc|apply pw_below_drewN|apply below_drew1)|exact HB.out)) hb); clear HB; have HO140 := n0_; have HB := n1_; clear n0_ n1_; (try clear hb); (try clear hb2); (try clear hk); (try clear hi); (try clear ho0); obtain ⟨Ao8, co8, eo8⟩ := Kd.R_slice HO140.out; subst eo8; have p141 : 0 ≤ (0 : Int) := (by omega); have q141 : 0 < (t136.length : Int) := of_decide_eq_true (by first|(with_reducible assumption) | assumption); obtain ⟨ad141, e141, hx141_0, hx141_1, hx141_2, hx141_3⟩ := at_T33 (Kd.R_reads' HO140.out).2.2 0 p141 q141; cases e141; have qi141 : (0 < t136.length) = True := eq_true (by omega); (try rw [show ((0 : Int)).toNat = 0 from rfl] at hx141_0); (try rw [show 0 * 4 = 0 from rfl] at hx141_0); (try rw [Addr.add_zero'] at hx141_0); (try rw [show ((0 : Int)).toNat = 0 from rfl] at hx141_1); (try rw [show 0 * 4 = 0 from rfl] at hx141_1); (try rw [Addr.add_zero'] at hx141_1); (try rw [show ((0 : Int)).toNat = 0 from rfl] at hx141_2); (try rw [show 0 * 4 = 0 from rfl] at hx141_2); (try rw [Addr.add_zero'] at hx141_2); (try rw [show ((0 : Int)).toNat = 0 from rfl] at hx141_3); (try rw [show 0 * 4 = 0 from rfl] at hx141_3); (try rw [Addr.add_zero'] at hx141_3); replace p141 := eq_true p141; replace q141 := eq_true q141; have p142 : 0 ≤ (0 : Int) := (by omega); have q142 : 0 < (t136.length : Int) := of_decide_eq_true (by first|(with_reducible assumption) | assumption); obtain ⟨ad142, e142, hx142_0, hx142_1, hx142_2, hx142_3⟩ := at_T33 (Kd.R_reads' HO140.out).2.2 0 p142 q142; obtain rfl : ad141 = ad142 := (by injection e142); have qi142 : (0 < t136.length) = True := eq_true (by omega); (try rw [show ((0 : Int)).toNat = 0 from rfl] at hx142_0); (try rw [show 0 * 4 = 0 from rfl] at hx142_0); (try rw [Addr.add_zero'] at hx142_0); (try rw [show ((0 : Int)).toNat = 0 from rfl] at hx142_1); (try rw [show 0 * 4 = 0 from rfl] at hx142_1); (try rw [Addr.add_zero'] at hx142_1); (try rw [show ((0 : Int)).toNat = 0 from rfl] at hx142_2); (try rw [show 0 * 4 = 0 from rfl] at hx142_2); (try rw [Addr.add_zero'] at hx142_2); (try rw [show ((0 : Int)).toNat = 0 from rfl] at hx142_3); (try rw [show 0 * 4 = 0 from rfl] at hx142_3); (try rw [Addr.add_zero'] at hx142_3); replace p142 := eq_true p142; replace q142 := eq_true q142))
    go_ret
    exact ⟨by first|rfl|(simp [errW_none, errW_some] <;> rfl)|(simp [*, errW_none, errW_some] <;> rfl), by repeat (first|(with_reducible first|exact HB.out|apply below_alloc|apply pw_below_drewN|apply below_drew1)|exact HB.out)⟩
   ·rw [if_neg c6] at H
    have c6b0 : (((rd_T33 t136 0).f0) == a1) = false := beq_eq_false_iff_ne.mpr c6
    have c6b1 : (((rd_T33 t136 0).f0) != a1) = true := bne_iff_ne.mpr c6
    obtain rfl := Option.some.inj H
    go_enter Tryd.func34, Tryd.ntmps34
    go_wp2_with (first|((with_reducible refine gate_callee (f := 38) rfl ?_); refine goesL_ (some 10) rfl rfl Tryd.func38 (by kernel_rfl) rfl #[.string a0] rfl (by (try simp only [List.map_toArray, List.map_cons, List.map_nil]); first|done|rfl|(simp only [List.length_drop, List.length_take]; rfl)) ?_; (with_reducible refine (lex_All.calls a0 t136 t137 t138 _ A3.out).mono ?_); rintro e w9 ⟨v139, rfl, ho0, hb⟩; refine ⟨_, rfl, ?_⟩; have n0_ := Aside0.mk (Kd.R_lower ho0 (below_size (by repeat (first|(with_reducible first|exact HB.out|apply below_alloc|apply pw_below_drewN|apply below_drew1)|exact HB.out)))); have n1_ := Aside0.mk (below_step (by repeat (first|(with_reducible first|exact HB.out|apply below_alloc|apply pw_below_drewN|apply below_drew1)|exact HB.out)) hb); clear HB; have HO140 := n0_; have HB := n1_; clear n0_ n1_; (try clear hb); (try clear hb2); (try clear hk); (try clear hi); (try clear ho0); obtain ⟨Ao10, co10, eo10⟩ := Kd.R_slice HO140.out; subst eo10; have p141 : 0 ≤ (0 : Int) := (by omega); have q141 : 0 < (t136.length : Int) := of_decide_eq_true (by first|(with_reducible assumption) | assumption); obtain ⟨ad141, e141, hx141_0, hx141_1, hx141_2, hx141_3⟩ := at_T33 (Kd.R_reads' HO140.out).2.2 0 p141 q141; cases e141; have qi141 : (0 < t136.length) = True := eq_true (by omega); (try rw [show ((0 : Int)).toNat = 0 from rfl] at hx141_0); (try rw [show 0 * 4 = 0 from rfl] at hx141_0); (try rw [Addr.add_zero'] at hx141_0); (try rw [show ((0 : Int)).toNat = 0 from rfl] at hx141_1); (try rw [show 0 * 4 = 0 from rfl] at hx141_1); (try rw [Addr.add_zero'] at hx141_1); (try rw [show ((0 : Int)).toNat = 0 from rfl] at hx141_2); (try rw [show 0 * 4 = 0 from rfl] at hx141_2); (try rw [Addr.add_zero'] at hx141_2); (try rw [show ((0 : Int)).toNat = 0 from rfl] at hx141_3); (try rw [show 0 * 4 = 0 from rfl] at hx141_3); (try rw [Addr.add_zero'] at hx141_3); replace p141 := eq_true p141; replace q141 := eq_true q141))
    go_ret
    exact ⟨by first|rfl|(simp [errW_none, errW_some] <;> rfl)|(simp [*, errW_none, errW_some] <;> rfl), by repeat (first|(with_reducible first|exact HB.out|apply below_alloc|apply pw_below_drewN|apply below_drew1)|exact HB.out)⟩
  ·rw [if_neg c5] at H
   exact absurd H (by simp)
 ·rw [if_neg c4] at H
  have c4b0 : ((t136.length : Int) == 1) = false := beq_eq_false_iff_ne.mpr c4
  have c4b1 : ((t136.length : Int) != 1) = true := bne_iff_ne.mpr c4
  obtain rfl := Option.some.inj H
  go_enter Tryd.func34, Tryd.ntmps34
  go_wp2_with (first|((with_reducible refine gate_callee (f := 38) rfl ?_); refine goesL_ (some 10) rfl rfl Tryd.func38 (by kernel_rfl) rfl #[.string a0] rfl (by (try simp only [List.map_toArray, List.map_cons, List.map_nil]); first|done|rfl|(simp only [List.length_drop, List.length_take]; rfl)) ?_; (with_reducible refine (lex_All.calls a0 t136 t137 t138 _ A3.out).mono ?_); rintro e w11 ⟨v139, rfl, ho0, hb⟩; refine ⟨_, rfl, ?_⟩; have n0_ := Aside0.mk (Kd.R_lower ho0 (below_size (by repeat (first|(with_reducible first|exact HB.out|apply below_alloc|apply pw_below_drewN|apply below_drew1)|exact HB.out)))); have n1_ := Aside0.mk (below_step (by repeat (first|(with_reducible first|exact HB.out|apply below_alloc|apply pw_below_drewN|apply below_drew1)|exact HB.out)) hb); clear HB; have HO140 := n0_; have HB := n1_; clear n0_ n1_; (try clear hb); (try clear hb2); (try clear hk); (try clear hi); (try clear ho0); obtain ⟨Ao12, co12, eo12⟩ := Kd.R_slice HO140.out; subst eo12))
  go_ret
  exact ⟨by first|rfl|(simp [errW_none, errW_some] <;> rfl)|(simp [*, errW_none, errW_some] <;> rfl), by repeat (first|(with_reducible first|exact HB.out|apply below_alloc|apply pw_below_drewN|apply below_drew1)|exact HB.out)⟩

end Go.Proofs.YthdkjfhpbigdpaaDoor.Q

/- Plain Lean: what the tokenizer obeys. No program in sight. -/
namespace Go.Proofs.YthdkjfhpbigdpaaDoor.HLex

theorem tw_len (q : UInt8 → Bool) (l : List UInt8) : (l.takeWhile q).length ≤ l.length := (List.takeWhile_prefix q).length_le
theorem dw_len (q : UInt8 → Bool) (l : List UInt8) : (l.dropWhile q).length ≤ l.length := (List.dropWhile_suffix q).length_le
theorem tw_eq_take (q : UInt8 → Bool) (l : List UInt8) : l.take (l.takeWhile q).length = l.takeWhile q := by
 induction l with
 | nil => rfl
 | cons c r ih => by_cases h : q c <;> simp [List.takeWhile, h, ih]
theorem tw_all (q : UInt8 → Bool) (l : List UInt8) : ∀ c ∈ l.takeWhile q, q c = true := by
 induction l with
 | nil => simp
 | cons c r ih => by_cases h : q c <;> simp [List.takeWhile, h]; exact ih
theorem dw_self {q : UInt8 → Bool} {c : UInt8} {r : List UInt8} (h : q c = false) : (c :: r).dropWhile q = c :: r := by simp [List.dropWhile, h]

inductive FirstIs (r : List UInt8) : Nat → List UInt8 → Nat → Prop
 | word {k n : Nat} : r.takeWhile wordly ≠ [] → named (r.takeWhile wordly) = .ok (k, n) → FirstIs r k (r.takeWhile wordly) n
 | sign {s : List UInt8} : r.takeWhile wordly = [] → signs.find? (fun s => s.isPrefixOf r) = some s → FirstIs r 5 s 0
theorem first_is {r t : List UInt8} {k n : Nat} (h : first r = .ok (k, t, n)) : FirstIs r k t n := by
 unfold first at h
 by_cases hw : r.takeWhile wordly = []
 ·simp only [hw, if_true] at h
  split at h
  ·rename_i s hs; cases h; exact .sign hw hs
  ·cases h
 ·simp only [hw, if_false] at h
  split at h
  ·rename_i k' n' hn; cases h; exact .word hw hn
  ·cases h
theorem first_word {r : List UInt8} {k n : Nat} (hw : r.takeWhile wordly ≠ []) (hn : named (r.takeWhile wordly) = .ok (k, n)) : first r = .ok (k, r.takeWhile wordly, n) := by
 unfold first; simp only [hw, if_false, hn]
theorem first_sign {r s : List UInt8} (hw : r.takeWhile wordly = []) (hs : signs.find? (fun s => s.isPrefixOf r) = some s) : first r = .ok (5, s, 0) := by
 unfold first; simp only [hw, if_true, hs]
theorem sign_facts : ∀ s ∈ signs, s ≠ [] ∧ s.length ≤ 2 ∧ first s = .ok (5, s, 0) ∧ (∀ c ∈ s, blank c = false) := by
 intro s hs
 simp only [signs, List.mem_cons, List.mem_nil_iff, or_false] at hs
 rcases hs with rfl|rfl|rfl|rfl|rfl|rfl|rfl|rfl|rfl|rfl|rfl|rfl|rfl|rfl|rfl <;> exact ⟨by decide, by decide, rfl, by decide⟩
theorem first_pre {r t : List UInt8} {k n : Nat} (h : first r = .ok (k, t, n)) : t <+: r ∧ t ≠ [] := by
 cases first_is h with
 | word h1 h2 => exact ⟨List.takeWhile_prefix _, h1⟩
 | sign h1 h2 =>
  have := List.find?_some h2
  exact ⟨List.isPrefixOf_iff_prefix.1 this, (sign_facts _ (List.mem_of_find?_eq_some h2)).1⟩

theorem tw_app {r : List UInt8} {c : UInt8} (hc : wordly c = false) (t : List UInt8) : (r ++ c :: t).takeWhile wordly = r.takeWhile wordly := by
 induction r with
 | nil => simp [List.takeWhile, hc]
 | cons d s ih => by_cases h : wordly d <;> simp [List.takeWhile, h, ih]
theorem pre_app {s r : List UInt8} {c : UInt8} (hc : c ∉ s) (t : List UInt8) : s.isPrefixOf (r ++ c :: t) = s.isPrefixOf r := by
 induction s generalizing r with
 | nil => simp
 | cons d s ih =>
  have h1 : c ≠ d := fun e => hc (by simp [e])
  have h2 : c ∉ s := fun e => hc (by simp [e])
  cases r with
  | nil => simp only [List.nil_append, List.isPrefixOf, Bool.and_eq_false_imp, beq_iff_eq]; intro e; exact absurd e.symm h1
  | cons x r => simp [List.isPrefixOf, ih h2]
theorem find_congr {α : Type} {p q : α → Bool} {l : List α} (h : ∀ x ∈ l, p x = q x) : l.find? p = l.find? q := by
 induction l with
 | nil => rfl
 | cons x r ih => simp only [List.find?_cons, h x (List.mem_cons_self ..), ih fun y hy => h y (List.mem_cons_of_mem _ hy)]
theorem blank_not {c : UInt8} (h : blank c = true) : wordly c = false ∧ ∀ s ∈ signs, c ∉ s := by
 have h' : c = 32 ∨ c = 10 ∨ c = 9 := by simpa [blank, or_assoc] using h
 rcases h' with rfl|rfl|rfl <;> decide
theorem first_app {c : UInt8} (hc : blank c = true) (r t : List UInt8) : first (r ++ c :: t) = first r := by
 obtain ⟨h1, h2⟩ := blank_not hc
 unfold first
 rw [tw_app h1 t, find_congr (q := fun s => s.isPrefixOf r) fun s hs => pre_app (h2 s hs) t]

theorem named_err {w : List UInt8} {e : Nat} (h : named w = .error e) : e = 10 ∨ e = 11 := by
 unfold named at h
 split at h
 ·split at h
  ·cases h; exact .inl rfl
  ·split at h
   ·cases h; exact .inr rfl
   ·cases h
 ·split at h
  ·cases h; exact .inr rfl
  ·split at h
   ·cases h
   ·split at h <;> cases h
theorem first_err {r : List UInt8} {e : Nat} (h : first r = .error e) : e = 10 ∨ e = 11 := by
 unfold first at h
 by_cases hw : r.takeWhile wordly = []
 ·simp only [hw, if_true] at h
  split at h
  ·cases h
  ·cases h; exact .inl rfl
 ·simp only [hw, if_false] at h
  split at h
  ·cases h
  ·rename_i e' hn; cases h; exact named_err hn

theorem fuel : ∀ (f g pos : Nat) (l : List UInt8), l.length < f → l.length < g → lexFrom f pos l = lexFrom g pos l
 | 0, _, _, _, h, _ => by omega
 | _, 0, _, _, _, h => by omega
 | f + 1, g + 1, pos, l, hf, hg => by
  unfold lexFrom
  have hr := dw_len blank l
  by_cases h0 : l.dropWhile blank = []
  ·simp [h0]
  ·simp only [h0, if_false]
   cases h1 : first (l.dropWhile blank) with
   | error e => rfl
   | ok x =>
    obtain ⟨k, t, n⟩ := x
    have ht := first_pre h1
    have : 0 < t.length := List.length_pos_iff.2 ht.2
    have hl : 0 < (l.dropWhile blank).length := List.length_pos_iff.2 h0
    simp only []
    rw [fuel f g _ _ (by simp; omega) (by simp; omega)]
def lexs (pos : Nat) (l : List UInt8) : Except (Nat × Nat) (List Tok) := lexFrom (l.length + 1) pos l
theorem lex_lexs (l : List UInt8) : lex l = lexs 0 l := rfl
theorem lexs_nil (pos : Nat) {l : List UInt8} (h : l.dropWhile blank = []) : lexs pos l = .ok [] := by
 unfold lexs lexFrom; simp [h]
theorem lexs_err (pos : Nat) {l : List UInt8} {e : Nat} (h : l.dropWhile blank ≠ []) (h1 : first (l.dropWhile blank) = .error e) :
  lexs pos l = .error (pos + (l.length - (l.dropWhile blank).length), e) := by
 unfold lexs lexFrom; simp [h, h1]
def more (t : Tok) : Except (Nat × Nat) (List Tok) → Except (Nat × Nat) (List Tok)
 | .ok ts => .ok (t :: ts)
 | .error e => .error e
theorem lexs_tok (pos : Nat) {l t : List UInt8} {k n : Nat} (h : l.dropWhile blank ≠ []) (h1 : first (l.dropWhile blank) = .ok (k, t, n)) :
  lexs pos l = more ⟨k, t, n, pos + (l.length - (l.dropWhile blank).length)⟩ (lexs (pos + (l.length - (l.dropWhile blank).length) + t.length) ((l.dropWhile blank).drop t.length)) := by
 have ht := first_pre h1
 have h3 : 0 < t.length := List.length_pos_iff.2 ht.2
 have h4 : 0 < (l.dropWhile blank).length := List.length_pos_iff.2 h
 have h5 := dw_len blank l
 conv => lhs; unfold lexs lexFrom
 simp only [h, if_false, h1]
 rw [show lexFrom l.length = lexFrom l.length from rfl, fuel l.length (((l.dropWhile blank).drop t.length).length + 1) _ _ (by simp; omega) (by omega)]
 unfold lexs more
 cases lexFrom (((l.dropWhile blank).drop t.length).length + 1) (pos + (l.length - (l.dropWhile blank).length) + t.length) ((l.dropWhile blank).drop t.length) <;> rfl

def Stands (s : List UInt8) : Nat → List Tok → Prop
 | at_, [] => at_ ≤ s.length ∧ ∀ i, at_ ≤ i → (h : i < s.length) → blank s[i] = true
 | at_, t :: ts => at_ ≤ t.pos ∧ t.pos + t.text.length ≤ s.length ∧ t.text ≠ [] ∧ (∀ i, at_ ≤ i → i < t.pos → (h : i < s.length) → blank s[i] = true) ∧
   (s.drop t.pos).take t.text.length = t.text ∧ Stands s (t.pos + t.text.length) ts
end Go.Proofs.YthdkjfhpbigdpaaDoor.HLex

namespace Go.Proofs.YthdkjfhpbigdpaaDoor.Pure
open Go Go.RowKit Go.Proofs.YthdkjfhpbigdpaaDoor.Q Go.Proofs.YthdkjfhpbigdpaaDoorW.PrintWords Go.Proofs.YthdkjfhpbigdpaaDoorW.PrintLast Go.Proofs.YthdkjfhpbigdpaaDoorW.PrintMore
open HLexC (toS)
open HLex (Tok Stands)
theorem wrap_small {n : Int} (h0 : -9223372036854775808 ≤ n) (h1 : n < 9223372036854775808) : wrap64 n = n := by
 unfold wrap64; omega
namespace More
theorem size_len (a : ByteArray) : a.data.toList.length = a.size := by simp
def later (d : Nat) (t : Tok) : Tok := { t with pos := t.pos + d }
end More
end Go.Proofs.YthdkjfhpbigdpaaDoor.Pure

/- Plain Lean: the number of digits, digit by digit. No program in sight. -/
namespace Go.Proofs.YthdkjfhpbigdpaaDoor.HLex
theorem num_snoc (l : List UInt8) (c : UInt8) : num (l ++ [c]) = 10 * num l + (c.toNat - 48) := by unfold num; rw [List.foldl_append]; rfl
theorem num_take (l : List UInt8) (j : Nat) (h : j < l.length) : num (l.take (j + 1)) = 10 * num (l.take j) + (l[j].toNat - 48) := by
 rw [List.take_succ_eq_append_getElem h, num_snoc]
theorem num_lt (l : List UInt8) (h : ∀ d ∈ l, digit d = true) : ∀ j, j ≤ l.length → num (l.take j) < 10 ^ j
 | 0, _ => by simp [num]
 | j + 1, hj => by
  have ih := num_lt l h j (by omega)
  have hd := h l[j] (List.getElem_mem (by omega))
  rw [num_take l j (by omega)]
  simp only [digit, Bool.and_eq_true, decide_eq_true_eq] at hd
  rw [Nat.pow_succ]; omega
theorem num_small (l : List UInt8) (h : ∀ d ∈ l, digit d = true) (j : Nat) (hj : j ≤ l.length) (h17 : j ≤ 17) : num (l.take j) < 100000000000000000 :=
 Nat.lt_of_lt_of_le (num_lt l h j hj) (Nat.pow_le_pow_right (by decide) h17)
end Go.Proofs.YthdkjfhpbigdpaaDoor.HLex

namespace Go.Proofs.YthdkjfhpbigdpaaDoor.Pure
open Go Go.RowKit Go.Proofs.YthdkjfhpbigdpaaDoor.Q Go.Proofs.YthdkjfhpbigdpaaDoorW.PrintWords Go.Proofs.YthdkjfhpbigdpaaDoorW.PrintLast Go.Proofs.YthdkjfhpbigdpaaDoorW.PrintMore
open HLexC (toS)
open HLex (Tok Stands lower upper digit wordly num signs)
open More
namespace Refs
def cl (c : UInt8) : Int := if lower c then 1 else if upper c then 2 else if digit c then 3 else if HLex.blank c then 4 else 0
theorem blank_nat (c : UInt8) : HLex.blank c = (decide (c.toNat = 32) || decide (c.toNat = 10) || decide (c.toNat = 9)) := by
  unfold HLex.blank
  have e : ∀ d : UInt8, (c == d) = decide (c.toNat = d.toNat) := fun d => by
    by_cases h : c = d
    · subst h; simp
    · have h' : ¬ c.toNat = d.toNat := fun he => h (UInt8.toNat_inj.1 he)
      simp [h, h']
  rw [e, e, e]; rfl
theorem class_is (c : UInt8) (k : Nat) : gossamerref01_class.f (k + 3) (c.toNat : Int) = some (cl c) := by
  unfold gossamerref01_class.f gossamerref01_class.j0 gossamerref01_class.j1 gossamerref01_class.j2 cl
  rw [blank_nat]
  simp only [lower, upper, digit]
  by_cases h1 : 97 ≤ c.toNat <;> by_cases h2 : c.toNat ≤ 122 <;> by_cases h3 : 65 ≤ c.toNat <;> by_cases h4 : c.toNat ≤ 90 <;> by_cases h5 : 48 ≤ c.toNat <;> by_cases h6 : c.toNat ≤ 57 <;> first
    | omega
    | (have e1 : ((c.toNat : Int) ≥ 97) ↔ (97 ≤ c.toNat) := by omega
       have e2 : ((c.toNat : Int) ≤ 122) ↔ (c.toNat ≤ 122) := by omega
       have e3 : ((c.toNat : Int) ≥ 65) ↔ (65 ≤ c.toNat) := by omega
       have e4 : ((c.toNat : Int) ≤ 90) ↔ (c.toNat ≤ 90) := by omega
       have e5 : ((c.toNat : Int) ≥ 48) ↔ (48 ≤ c.toNat) := by omega
       have e6 : ((c.toNat : Int) ≤ 57) ↔ (c.toNat ≤ 57) := by omega
       have e7 : ((c.toNat : Int) = 32) ↔ (c.toNat = 32) := by omega
       have e8 : ((c.toNat : Int) = 10) ↔ (c.toNat = 10) := by omega
       have e9 : ((c.toNat : Int) = 9) ↔ (c.toNat = 9) := by omega
       simp only [e1, e2, e3, e4, e5, e6, e7, e8, e9, h1, h2, h3, h4, h5, h6, decide_true, decide_false, Bool.and_true, Bool.and_false, Bool.true_and, Bool.false_and, if_true, if_false, Bool.false_eq_true]
       try (by_cases h7 : c.toNat = 32 <;> by_cases h8 : c.toNat = 10 <;> by_cases h9 : c.toNat = 9 <;> simp [h7, h8, h9]))
def letter (c : UInt8) : Bool := decide (57 < c.toNat)
theorem cl_wordly (c : UInt8) : (1 ≤ cl c ∧ cl c ≤ 3) ↔ wordly c = true := by
  unfold cl wordly
  cases h1 : lower c <;> cases h2 : upper c <;> cases h3 : digit c <;> cases h4 : HLex.blank c <;> simp
theorem cl_letter (c : UInt8) (h : wordly c = true) : decide (cl c < 3) = letter c := by
  unfold cl letter
  simp only [wordly, lower, upper, digit, Bool.or_eq_true, Bool.and_eq_true, decide_eq_true_eq] at h ⊢
  by_cases h1 : 97 ≤ c.toNat ∧ c.toNat ≤ 122
  · simp [h1]; omega
  · by_cases h2 : 65 ≤ c.toNat ∧ c.toNat ≤ 90
    · simp [h1, h2]; omega
    · have h3 : 48 ≤ c.toNat ∧ c.toNat ≤ 57 := by rcases h with (h | h) | h <;> first|exact absurd h h1|exact absurd h h2|exact h
      simp [h1, h2, h3]
theorem bt_nat (a : ByteArray) (i : Nat) (c : UInt8) (h : a.data.toList[i]? = some c) : bt a (i : Int) = (c.toNat : Int) := by
  obtain ⟨hi, hc⟩ := List.getElem?_eq_some_iff.1 h
  unfold bt
  have h' : i < a.size := by simpa using hi
  simp [h', ← hc]
  rfl
theorem run_from (s : ByteArray) (at_ : Nat) (hs : s.size ≤ 1100000) : ∀ (l : List UInt8) (n : Nat) (b : Bool) (k : Nat), s.data.toList.drop (at_ + n) = l → at_ + n ≤ s.size → l.length + 4 ≤ k →
    gossamerref01_run.l0 k s at_ n b = some (((n + (l.takeWhile wordly).length : Nat) : Int), b || (l.takeWhile wordly).any letter)
  | l, n, b, 0, _, _, hk => by omega
  | [], n, b, k + 1, h, hle, _ => by
    have hl : s.data.toList.length ≤ at_ + n := List.drop_eq_nil_iff.1 h
    rw [size_len] at hl
    unfold gossamerref01_run.l0
    rw [wrap_small (by omega) (by omega), if_neg (by omega)]
    simp
  | c :: r, n, b, k + 1, h, hle, hk => by
    have hlen : at_ + n < s.data.toList.length := by
      have := congrArg List.length h
      rw [List.length_drop, List.length_cons] at this; omega
    have hc : s.data.toList[at_ + n]? = some c := by
      have := congrArg (fun l => l[0]?) h
      simpa using this
    rw [size_len] at hlen
    obtain ⟨k, rfl⟩ : ∃ j, k = j + 3 := ⟨k - 3, by simp at hk; omega⟩
    unfold gossamerref01_run.l0
    have hw : wrap64 ((at_ : Int) + (n : Int)) = ((at_ + n : Nat) : Int) := by rw [wrap_small (by omega) (by omega)]; omega
    rw [hw, if_pos (by omega), if_pos (by omega), bt_nat s _ c hc, class_is, Option.bind_some]
    by_cases hwc : wordly c = true
    · obtain ⟨h1, h3⟩ := (cl_wordly c).2 hwc
      rw [if_neg (by omega), if_neg (by omega), wrap_small (n := (n : Int) + 1) (by omega) (by omega)]
      have hr : s.data.toList.drop (at_ + (n + 1)) = r := by
        rw [← Nat.add_assoc, ← List.drop_drop, h]; rfl
      have ih := fun b' => run_from s at_ hs r (n + 1) b' (k + 3) hr (by omega) (by simp at hk; omega)
      have e1 : ((n : Int) + 1) = ((n + 1 : Nat) : Int) := by omega
      rw [e1, cl_letter c hwc]
      have e2 : (n + 1 + (List.takeWhile wordly r).length : Nat) = n + (List.takeWhile wordly (c :: r)).length := by simp [List.takeWhile, hwc]; omega
      cases b
      · rw [if_neg (by simp), ih, e2]
        simp [List.takeWhile, hwc]
      · rw [if_pos rfl, ih, e2]
        simp
    · have hwc' : wordly c = false := by simpa using hwc
      have hout : cl c < 1 ∨ cl c > 3 := by
        have := mt (cl_wordly c).1 hwc
        omega
      rcases hout with h1 | h3
      · rw [if_pos h1]; simp [List.takeWhile, hwc']
      · rw [if_neg (by omega), if_pos h3]; simp [List.takeWhile, hwc']
theorem run_is (s : ByteArray) (at_ : Nat) (hs : s.size ≤ 1100000) (hat : at_ ≤ s.size) : gossamerref01_run.f (s.size + 4) s at_ = some ((((s.data.toList.drop at_).takeWhile wordly).length : Int), ((s.data.toList.drop at_).takeWhile wordly).any letter) := by
  unfold gossamerref01_run.f
  have := run_from s at_ hs (s.data.toList.drop at_) 0 false (s.size + 4) rfl hat (by rw [List.length_drop, size_len]; omega)
  simpa using this
theorem num_from (t : ByteArray) (ht : t.size ≤ 18) (hd : ∀ d ∈ t.data.toList, digit d = true) : ∀ (m j k : Nat), j + m = t.size → m < k → gossamerref01_number.l0 k t (num (t.data.toList.take j)) j = some (num t.data.toList : Int)
  | m, j, 0, _, hk => by omega
  | 0, j, k + 1, h, _ => by
    unfold gossamerref01_number.l0
    rw [if_neg (by omega), List.take_of_length_le (by rw [size_len]; omega)]
  | m + 1, j, k + 1, h, hk => by
    have hj : j < t.data.toList.length := by rw [size_len]; omega
    have hdj := hd _ (List.getElem_mem hj)
    simp only [digit, Bool.and_eq_true, decide_eq_true_eq] at hdj
    have hsm := HLex.num_small t.data.toList hd j (by omega) (by omega)
    unfold gossamerref01_number.l0
    rw [if_pos (by omega), if_pos (by omega), bt_nat t j _ (List.getElem?_eq_getElem hj)]
    have e1 : wrap64 ((wrap64 ((wrap64 (10 * (num (t.data.toList.take j) : Int))) + (wrap64 ((t.data.toList[j]).toNat : Int)))) - 48) = ((num (t.data.toList.take (j + 1)) : Nat) : Int) := by
      rw [HLex.num_take _ _ hj, wrap_small (n := 10 * _) (by omega) (by omega), wrap_small (n := ((t.data.toList[j]).toNat : Int)) (by omega) (by omega), wrap_small (n := _ + _) (by omega) (by omega), wrap_small (by omega) (by omega)]
      omega
    rw [e1, wrap_small (by omega) (by omega)]
    exact num_from t ht hd m (j + 1) k (by omega) (by omega)
theorem number_is (t : ByteArray) (ht : t.size ≤ 18) (hd : ∀ d ∈ t.data.toList, digit d = true) : gossamerref01_number.f 20 t = some (num t.data.toList : Int) := by
  unfold gossamerref01_number.f
  exact num_from t ht hd t.size 0 20 (by omega) (by omega)
theorem rword_is (a : ByteArray) : gossamerref01_Word.f a = some (HLex.isWord a.data.toList) := by
  unfold gossamerref01_Word.f
  rw [Lib.toList_data]
  by_cases h1 : a.data.toList = [108, 101, 116]
  · simp [h1, HLex.isWord, HLex.words]
  by_cases h2 : a.data.toList = [108, 101, 116, 114, 101, 99]
  · simp [h2, HLex.isWord, HLex.words]
  by_cases h3 : a.data.toList = [105, 110]
  · simp [h3, HLex.isWord, HLex.words]
  by_cases h4 : a.data.toList = [99, 97, 115, 101]
  · simp [h4, HLex.isWord, HLex.words]
  by_cases h5 : a.data.toList = [111, 102] <;> simp [h1, h2, h3, h4, h5, HLex.isWord, HLex.words]
def tab : List UInt8 := [92, 46, 40, 41, 61, 123, 125, 124, 43, 45, 42, 47, 60]
theorem signs_are : signs = [45, 62] :: [61, 61] :: tab.map (fun x => [x]) := rfl
theorem find_singles (c : UInt8) (r : List UInt8) : ∀ T : List UInt8, (T.map (fun x => [x])).find? (fun s => s.isPrefixOf (c :: r)) = if T.contains c then some [c] else none
  | [] => rfl
  | x :: T => by
    rw [List.map_cons, List.find?_cons]
    by_cases h : x = c
    · subst h; simp [List.isPrefixOf]
    · have h2 : ¬ c = x := fun e => h e.symm
      have e : ([x] : List UInt8).isPrefixOf (c :: r) = false := by simp [List.isPrefixOf, h]
      rw [e]
      simp only [find_singles c r T, List.contains_cons]
      simp [h2]
theorem two_pre (a b c : UInt8) (r : List UInt8) : ([a, b] : List UInt8).isPrefixOf (c :: r) = decide ((c :: r).take 2 = [a, b]) := by
  rw [Bool.eq_iff_iff, List.isPrefixOf_iff_prefix, List.prefix_iff_eq_take, decide_eq_true_iff]
  exact eq_comm
theorem find_signs (c : UInt8) (r : List UInt8) : signs.find? (fun s => s.isPrefixOf (c :: r)) = if (c :: r).take 2 = [45, 62] then some [45, 62] else if (c :: r).take 2 = [61, 61] then some [61, 61] else if tab.contains c then some [c] else none := by
  rw [signs_are, List.find?_cons, two_pre, List.find?_cons, two_pre, find_singles]
  by_cases h1 : (c :: r).take 2 = [45, 62]
  · simp only [h1, decide_true, if_true]
  · rw [if_neg h1, decide_eq_false h1]
    by_cases h2 : (c :: r).take 2 = [61, 61]
    · simp only [h2, decide_true, if_true]
    · rw [if_neg h2, decide_eq_false h2]
theorem tab_bytes : ∀ i : Nat, i < 13 → (⟨#[92, 46, 40, 41, 61, 123, 125, 124, 43, 45, 42, 47, 60]⟩ : ByteArray).data.toList[i]? = tab[i]? := fun i _ => rfl
theorem sign_loop (s : ByteArray) (at_ : Nat) (c : UInt8) (hc : s.data.toList[at_]? = some c) : ∀ (m i k : Nat), i + m = 13 → m < k → gossamerref01_sign.l0 k s at_ i = some (if (tab.drop i).contains c then 1 else 0)
  | m, i, 0, _, hk => by omega
  | 0, i, k + 1, h, _ => by
    obtain rfl : i = 13 := by omega
    unfold gossamerref01_sign.l0
    rw [if_neg (by decide)]
    rfl
  | m + 1, i, k + 1, h, hk => by
    have hi : i < tab.length := by show i < 13; omega
    have hat : at_ < s.size := by have := (List.getElem?_eq_some_iff.1 hc).1; rwa [size_len] at this
    unfold gossamerref01_sign.l0
    rw [if_pos (by omega), if_pos (by omega), if_pos (by omega), if_pos (by omega), bt_nat s at_ c hc, bt_nat _ i tab[i] (by rw [tab_bytes i (by omega)]; exact List.getElem?_eq_getElem hi)]
    rw [List.drop_eq_getElem_cons hi, List.contains_cons]
    by_cases he : tab[i] = c
    · rw [if_pos (by rw [he]), he]; simp
    · have he2 : ¬ c = tab[i] := fun e => he e.symm
      have he3 : ¬ ((tab[i].toNat : Int) = (c.toNat : Int)) := fun e => he (UInt8.toNat_inj.1 (by omega))
      rw [if_neg he3, wrap_small (by omega) (by omega)]
      have ih := sign_loop s at_ c hc m (i + 1) k (by omega) (by omega)
      rw [show ((i : Int) + 1) = ((i + 1 : Nat) : Int) by omega, ih]
      simp [he2]
def signLen (l : List UInt8) : Nat := match signs.find? (fun s => s.isPrefixOf l) with | some t => t.length | none => 0
theorem extract_two (s : ByteArray) (at_ : Nat) : (s.extract at_ (at_ + 2)).data.toList = (s.data.toList.drop at_).take 2 := by
  simp [ByteArray.extract, ByteArray.copySlice]
theorem sign_is (s : ByteArray) (at_ : Nat) (c : UInt8) (r : List UInt8) (hs : s.size ≤ 1100000) (hl : s.data.toList.drop at_ = c :: r) : gossamerref01_sign.f 20 s at_ = some (signLen (c :: r) : Int) := by
  have hc : s.data.toList[at_]? = some c := by
    have := congrArg (fun l => l[0]?) hl
    simpa using this
  have hlen : at_ + (r.length + 1) = s.size := by
    have := congrArg List.length hl
    rw [List.length_drop, List.length_cons, size_len] at this; omega
  have hlp := sign_loop s at_ c hc 13 0 19 rfl (by omega)
  rw [List.drop_zero] at hlp
  unfold signLen
  rw [find_signs]
  unfold gossamerref01_sign.f
  rw [wrap_small (n := (at_ : Int) + 1) (by omega) (by omega), wrap_small (n := (at_ : Int) + 2) (by omega) (by omega)]
  have hnone : ∀ b, b = false → gossamerref01_sign.j0 20 s at_ b = some (if tab.contains c then 1 else 0) := by
    rintro b rfl
    show gossamerref01_sign.j0 (19 + 1) s at_ false = _
    rw [gossamerref01_sign.j0, if_neg (by simp)]
    exact hlp
  clear hlp
  generalize tab.contains c = q at *
  cases r with
  | nil =>
    rw [if_neg (by simp at hlen; omega), hnone _ rfl]
    simp only [List.take_succ_cons, List.take_nil]
    cases q <;> simp
  | cons d r =>
    simp only [List.length_cons] at hlen
    rw [if_pos (by omega), if_pos (by omega), if_pos (by omega), if_pos (by omega)]
    have hx : (s.extract (at_ : Int).toNat ((at_ : Int) + 2).toNat).toList = (c :: d :: r).take 2 := by
      rw [Lib.toList_data, ← hl, ← extract_two]
      have e1 : (at_ : Int).toNat = at_ := by omega
      have e2 : ((at_ : Int) + 2).toNat = at_ + 2 := by omega
      rw [e1, e2]
    rw [hx]
    by_cases h1 : (c :: d :: r).take 2 = [45, 62]
    · rw [if_pos h1, if_pos h1]; rfl
    · rw [if_neg h1, if_neg h1]
      by_cases h2 : (c :: d :: r).take 2 = [61, 61]
      · rw [if_pos h2, h2]; rfl
      · rw [if_neg h2, hnone _ (by simpa using h2)]
        cases q <;> simp
end Refs
end Go.Proofs.YthdkjfhpbigdpaaDoor.Pure

/- Plain Lean: what a token's kind, first byte, text and number have to do with one another. No program in sight. -/
namespace Go.Proofs.YthdkjfhpbigdpaaDoor.HLex
theorem low_not {c : UInt8} (h : lower c = true) : upper c = false ∧ digit c = false := by
 simp only [lower, upper, digit, Bool.and_eq_true, decide_eq_true_eq, Bool.and_eq_false_imp, decide_eq_false_iff_not] at *
 omega
theorem wordly_low {c : UInt8} (h : wordly c = true) (h1 : digit c = false) (h2 : upper c = false) : lower c = true := by
 simpa [wordly, h1, h2] using h
theorem wordly_digit {c : UInt8} (h : wordly c = true) (h1 : ¬ 57 < c.toNat) : digit c = true := by
 simp only [wordly, lower, upper, digit, Bool.or_eq_true, Bool.and_eq_true, decide_eq_true_eq] at *
 omega
end Go.Proofs.YthdkjfhpbigdpaaDoor.HLex

namespace Go.Proofs.YthdkjfhpbigdpaaDoor.Pure
open Go Go.RowKit Go.Lib Go.Proofs Go.Proofs.YthdkjfhpbigdpaaDoor.Q Go.Proofs.YthdkjfhpbigdpaaDoorW.PrintWords Go.Proofs.YthdkjfhpbigdpaaDoorW.PrintLast Go.Proofs.YthdkjfhpbigdpaaDoorW.PrintMore
open HLexC (toS)
open HLex (Tok Stands lower upper digit wordly num signs)
open More
namespace Refs
set_option linter.unusedVariables false
set_option linter.unusedSimpArgs false
def OnePost (s : ByteArray) (at_ : Nat) (w : World) (e : Ending) (w' : World) : Prop :=
 match HLex.first (s.data.toList.drop at_) with
 | .ok (k, t, n) => e = .returned (.tuple #[.agg #[.int .i64 (k : Int), .string ⟨t.toArray⟩, .int .i64 (n : Int), .int .i64 (at_ : Int)], .int .i64 0]) ∧ Below w.heap.size w w'
 | .error er => e = .returned (.tuple #[.agg #[.int .i64 0, .string ⟨#[]⟩, .int .i64 0, .int .i64 0], .int .i64 (er : Int)]) ∧ Below w.heap.size w w'
theorem extract_is (s : ByteArray) (at_ k : Nat) (t r : List UInt8) (hl : s.data.toList.drop at_ = r) (ht : r.take k = t) : s.extract at_ (at_ + k) = ⟨t.toArray⟩ := by
 refine (HLexC.bytes_eq_iff _ _).2 ?_
 have : (s.extract at_ (at_ + k)).data.toList = (s.data.toList.drop at_).take k := by simp [ByteArray.extract, ByteArray.copySlice]
 rw [this, hl, ht]
theorem below4 {B : Nat} {w w' : World} (h : Below B w w') {g : Nat} (hg : B ≤ g) (u0 u1 u2 u3 : Value) : Below B w ((((w'.setCell ⟨g, 0, none⟩ u0).setCell ⟨g, 1, none⟩ u1).setCell ⟨g, 2, none⟩ u2).setCell ⟨g, 3, none⟩ u3) :=
 (((h.setCell (p := ⟨g, 0, none⟩) hg u0).setCell (p := ⟨g, 1, none⟩) hg u1).setCell (p := ⟨g, 2, none⟩) hg u2).setCell (p := ⟨g, 3, none⟩) hg u3
def Z : Obj := Obj.cells #[Value.int .i64 0, Value.string ⟨#[]⟩, Value.int .i64 0, Value.int .i64 0] 33
set_option maxRecDepth 100000 in
theorem one_sign (s : ByteArray) (at_ : Nat) (w : World) (hs : s.size ≤ 1100000) (c : UInt8) (r : List UInt8) (hl : s.data.toList.drop at_ = c :: r) (hw : (c :: r).takeWhile wordly = []) :
  Calls Tryd.prog 16 #[.string s, .int .i64 at_] w (OnePost s at_ w) := by
 have hlen : at_ + (r.length + 1) = s.size := by
  have := congrArg List.length hl
  rw [List.length_drop, List.length_cons, size_len] at this; omega
 have hr0 := run_is s at_ hs (by omega)
 rw [hl, hw] at hr0
 have HR := Lib.hid hr0
 have hs0 := sign_is s at_ c r hs hl
 have HS := Lib.hid hs0
 have HL := Lib.hid hl
 have HW := Lib.hid hw
 clear hr0 hs0 hl hw
 have hb0 := blk_new w Z
 have hbA := below_alloc (Below.refl w.heap.size w) Z
 have BK := Lib.hid hb0; have BB := Lib.hid hbA
 clear hb0 hbA
 go_enter Tryd.func16, Tryd.ntmps16
 go_wp2_with fail
 refine (gossamerref01_run.calls (s.size + 4) s at_ _ _ _ HR.out).mono ?_
 rintro e wf ⟨rfl, hd⟩
 have n0_ := Lib.hid (blk_below BK.out hd.below)
 have n1_ := Lib.hid (below_step BB.out hd.below)
 clear BK BB hd
 have BK := n0_; have BB := n1_
 clear n0_ n1_
 go_wp2_with fail
 refine (gossamerref01_sign.calls 20 s at_ _ _ HS.out).mono ?_
 rintro e w2 ⟨rfl, hd⟩
 have n0_ := Lib.hid (blk_below BK.out hd.below)
 have n1_ := Lib.hid (below_step BB.out hd.below)
 clear BK BB hd
 have BK := n0_; have BB := n1_
 clear n0_ n1_
 cases hf : signs.find? (fun s => s.isPrefixOf (c :: r)) with
 | none =>
  have hk : signLen (c :: r) = 0 := by unfold signLen; rw [hf]
  rw [hk]
  have HF := Lib.hid hf
  clear hf hk
  have c0 := blk_cell BK.out 0; have c1 := blk_cell BK.out 1; have c2 := blk_cell BK.out 2; have c3 := blk_cell BK.out 3
  have z0 := blk_frozen BK.out 0; have z1 := blk_frozen BK.out 1; have z2 := blk_frozen BK.out 2; have z3 := blk_frozen BK.out 3
  simp only [List.getElem?_toArray, List.getElem?_cons_zero, List.getElem?_cons_succ] at c0 c1 c2 c3
  go_wp2_with fail
  refine bodyPost_ret (results_ct rfl _ _ w.heap.size 33 #[.int .i64 0, .string ⟨#[]⟩, .int .i64 0, .int .i64 0] (0, 0) _ rfl (blk_put (blk_put (blk_put (blk_put BK.out 0 _ rfl) 1 _ rfl) 2 _ rfl) 3 _ rfl) Tryd.underlying33 rfl (by kernel_rfl)) rfl ?_
  unfold OnePost
  have hfst : HLex.first (c :: r) = .error 10 := by unfold HLex.first; simp only [HW.out, if_true, HF.out]
  rw [HL.out, hfst]
  exact ⟨rfl, below4 BB.out (Nat.le_refl _) _ _ _ _⟩
 | some t =>
  have hk : signLen (c :: r) = t.length := by unfold signLen; rw [hf]
  have htm := List.mem_of_find?_eq_some hf
  have hpre : t <+: c :: r := by
   have := List.find?_some hf
   exact List.isPrefixOf_iff_prefix.1 this
  have ht0 : 0 < t.length := List.length_pos_iff.2 (HLex.sign_facts t htm).1
  have ht1 : t.length ≤ r.length + 1 := by have := hpre.length_le; rwa [List.length_cons] at this
  rw [hk]
  have HF := Lib.hid hf
  have HP := Lib.hid hpre
  clear hf hk htm hpre
  have c0 := blk_cell BK.out 0; have c1 := blk_cell BK.out 1; have c2 := blk_cell BK.out 2; have c3 := blk_cell BK.out 3
  have z0 := blk_frozen BK.out 0; have z1 := blk_frozen BK.out 1; have z2 := blk_frozen BK.out 2; have z3 := blk_frozen BK.out 3
  simp only [List.getElem?_toArray, List.getElem?_cons_zero, List.getElem?_cons_succ] at c0 c1 c2 c3
  have hx := extract_is s at_ t.length t (c :: r) HL.out (by obtain ⟨u, hu⟩ := HP.out; rw [← hu]; simp)
  have HX := Lib.hid hx
  clear hx
  have i1 : (at_ : Int) ≤ at_ + (t.length : Int) := by omega
  have i2 : (at_ : Int) + (t.length : Int) ≤ (s.size : Int) := by omega
  have i3 : ((at_ : Int) + (t.length : Int)).toNat = at_ + t.length := by omega
  go_wp2_with fail
  refine bodyPost_ret (results_ct rfl _ _ w.heap.size 33 #[.int .i64 5, .string (s.extract at_ (at_ + t.length)), .int .i64 0, .int .i64 at_] (0, 0) _ rfl (blk_put (blk_put (blk_put (blk_put BK.out 0 _ rfl) 1 _ rfl) 2 _ rfl) 3 _ rfl) Tryd.underlying33 rfl (by kernel_rfl)) rfl ?_
  unfold OnePost
  rw [HL.out, HLex.first_sign HW.out HF.out, HX.out]
  exact ⟨rfl, below4 BB.out (Nat.le_refl _) _ _ _ _⟩
set_option maxRecDepth 100000 in
theorem one_word (s : ByteArray) (at_ : Nat) (w : World) (hs : s.size ≤ 1100000) (c : UInt8) (r : List UInt8) (hl : s.data.toList.drop at_ = c :: r) (hc : wordly c = true) :
  Calls Tryd.prog 16 #[.string s, .int .i64 at_] w (OnePost s at_ w) := by
 have hlen : at_ + (r.length + 1) = s.size := by
  have := congrArg List.length hl
  rw [List.length_drop, List.length_cons, size_len] at this; omega
 obtain ⟨wd, hwd⟩ : ∃ wd, (c :: r).takeWhile wordly = wd := ⟨_, rfl⟩
 have hr0 := run_is s at_ hs (by omega)
 rw [hl, hwd] at hr0
 have hwn : 0 < wd.length := by rw [← hwd]; simp [List.takeWhile, hc]
 have hwl : wd.length ≤ r.length + 1 := by have := HLex.tw_len wordly (c :: r); rw [hwd] at this; simpa using this
 have hhd : wd.head? = some c := by rw [← hwd]; simp [List.takeWhile, hc]
 have hx : s.extract at_ (at_ + wd.length) = ⟨wd.toArray⟩ := extract_is s at_ wd.length wd (c :: r) hl (by rw [← hwd]; exact HLex.tw_eq_take _ _)
 have hcl := class_is c 1
 have hfst : HLex.first (c :: r) = match HLex.named wd with | .ok (k, n) => .ok (k, wd, n) | .error e => .error e := by
  unfold HLex.first
  have : (c :: r).takeWhile wordly ≠ [] := by rw [hwd]; exact List.length_pos_iff.1 hwn
  simp only [this, if_false]
  rw [hwd] <;> rfl
 have hsc : ∀ h : at_ < s.size, s[at_]'h = c := fun h => by
  have h' : at_ < s.data.toList.length := by rw [size_len]; exact h
  have e1 : s.data.toList[at_]? = some c := by
   have := congrArg (fun l => l[0]?) hl
   simpa using this
  rw [List.getElem?_eq_getElem h'] at e1
  exact Option.some.inj e1
 have HR := Lib.hid hr0
 have HL := Lib.hid hl
 have HW := Lib.hid hwd
 have HC := Lib.hid hc
 have HCL := Lib.hid hcl
 have HX := Lib.hid hx
 have HH := Lib.hid hhd
 have HF := Lib.hid hfst
 clear hr0 hl hwd hc hcl hx hhd hfst
 have hb0 := blk_new w Z
 have hbA := below_alloc (Below.refl w.heap.size w) Z
 have BK := Lib.hid hb0; have BB := Lib.hid hbA
 clear hb0 hbA
 go_enter Tryd.func16, Tryd.ntmps16
 go_wp2_with fail
 refine (gossamerref01_run.calls (s.size + 4) s at_ _ _ _ HR.out).mono ?_
 rintro e wf ⟨rfl, hd⟩
 have n0_ := Lib.hid (blk_below BK.out hd.below)
 have n1_ := Lib.hid (below_step BB.out hd.below)
 clear BK BB hd
 have BK := n0_; have BB := n1_
 clear n0_ n1_
 have i1 : (at_ : Int) ≤ at_ + (wd.length : Int) := by omega
 have i2 : (at_ : Int) + (wd.length : Int) ≤ (s.size : Int) := by omega
 have i3 : ((at_ : Int) + (wd.length : Int)).toNat = at_ + wd.length := by omega
 go_wp2_with fail
 have hgn := blk_lt BK.out
 have n0_ := Lib.hid (blk_alloc BK.out (Obj.cells #[Value.int .i64 0, Value.string (s.extract at_ (at_ + wd.length)), Value.int .i64 0, Value.int .i64 (at_ : Int)] 33))
 have n1_ := Lib.hid (below_alloc BB.out (Obj.cells #[Value.int .i64 0, Value.string (s.extract at_ (at_ + wd.length)), Value.int .i64 0, Value.int .i64 (at_ : Int)] 33))
 have n2_ := Lib.hid (blk_new wf (Obj.cells #[Value.int .i64 0, Value.string (s.extract at_ (at_ + wd.length)), Value.int .i64 0, Value.int .i64 (at_ : Int)] 33))
 clear BK BB
 have BK := n0_; have BB := n1_; have BT := n2_
 clear n0_ n1_ n2_
 refine (gossamerref01_class.calls 4 _ _ _ HCL.out).mono ?_
 rintro e w3 ⟨rfl, hd⟩
 have n0_ := Lib.hid (blk_below BK.out hd.below)
 have n1_ := Lib.hid (below_step BB.out hd.below)
 have n2_ := Lib.hid (blk_below BT.out hd.below)
 clear BK BB BT hd
 have BK := n0_; have BB := n1_; have BT := n2_
 clear n0_ n1_ n2_
 generalize wf.heap.size = g2 at *
 have c0 := blk_cell BK.out 0; have c1 := blk_cell BK.out 1; have c2 := blk_cell BK.out 2; have c3 := blk_cell BK.out 3
 have z0 := blk_frozen BK.out 0; have z1 := blk_frozen BK.out 1; have z2 := blk_frozen BK.out 2; have z3 := blk_frozen BK.out 3
 have d0 := blk_cell BT.out 0; have d1 := blk_cell BT.out 1; have d2 := blk_cell BT.out 2; have d3 := blk_cell BT.out 3
 have y0 := blk_frozen BT.out 0; have y1 := blk_frozen BT.out 1; have y2 := blk_frozen BT.out 2; have y3 := blk_frozen BT.out 3
 simp only [List.getElem?_toArray, List.getElem?_cons_zero, List.getElem?_cons_succ] at c0 c1 c2 c3 d0 d1 d2 d3
 have q1 : ¬ w.heap.size = g2 := by omega
 have q2 : ¬ g2 = w.heap.size := by omega
 have hwa : ∀ k n, HLex.named wd = .ok (k, n) → HLex.first (c :: r) = .ok (k, wd, n) := fun k n h => by rw [HF.out, h]
 have hwe : ∀ er, HLex.named wd = .error er → HLex.first (c :: r) = .error er := fun er h => by rw [HF.out, h]
 have HWA := Lib.hid hwa; have HWE := Lib.hid hwe
 clear hwa hwe
 by_cases hd : digit c = true
 ·have e3 : cl c = 3 := by
   unfold cl; have := HLex.low_not (c := c)
   cases h1 : lower c
   ·cases h2 : upper c
    ·simp [hd]
    ·simp only [upper, digit, Bool.and_eq_true, decide_eq_true_eq] at h2 hd; omega
   ·rw [(HLex.low_not h1).2] at hd; cases hd
  have HD := Lib.hid hd
  clear hd
  rw [e3]
  clear e3
  cases ha : wd.any letter with
  | true =>
   have HA := Lib.hid ha
   clear ha
   go_wp2_with fail
   refine bodyPost_ret (results_ct rfl _ _ w.heap.size 33 #[.int .i64 0, .string ⟨#[]⟩, .int .i64 0, .int .i64 0] (0, 0) _ rfl (blk_put (blk_put (blk_put (blk_put BK.out 0 _ rfl) 1 _ rfl) 2 _ rfl) 3 _ rfl) Tryd.underlying33 rfl (by kernel_rfl)) rfl ?_
   unfold OnePost
   rw [HL.out, HWE.out 10 (by unfold HLex.named; rw [HH.out]; simp only [Option.map_some, Option.getD_some, HD.out]; exact if_pos HA.out)]
   exact ⟨rfl, below4 BB.out (Nat.le_refl _) _ _ _ _⟩
  | false =>
   have HA : Hid (wd.any (fun c => decide (57 < c.toNat)) = false) := Lib.hid ha
   clear ha
   by_cases h18 : 18 < wd.length
   ·have j1 : decide ((wd.length : Int) > 18) = true := by simp; omega
    go_wp2_with fail
    refine bodyPost_ret (results_ct rfl _ _ w.heap.size 33 #[.int .i64 0, .string ⟨#[]⟩, .int .i64 0, .int .i64 0] (0, 0) _ rfl (blk_put (blk_put (blk_put (blk_put BK.out 0 _ rfl) 1 _ rfl) 2 _ rfl) 3 _ rfl) Tryd.underlying33 rfl (by kernel_rfl)) rfl ?_
    unfold OnePost
    rw [HL.out, HWE.out 11 (by unfold HLex.named; rw [HH.out]; simp only [Option.map_some, Option.getD_some, HD.out]; rw [if_pos trivial, HA.out, if_neg (by simp), if_pos (.inl h18)])]
    exact ⟨rfl, below4 BB.out (Nat.le_refl _) _ _ _ _⟩
   ·have j1 : decide ((wd.length : Int) > 18) = false := by simp; omega
    by_cases h1 : 1 < wd.length
    ·have j2 : decide ((wd.length : Int) > 1) = true := by simp; omega
     by_cases h0 : c.toNat = 48
     ·have j3 : ((c.toNat : Int) == 48) = true := by simp; omega
      have hc48 := Lib.hid (UInt8.toNat_inj.1 h0 : c = 48)
      clear h0
      go_wp2_with fail
      refine bodyPost_ret (results_ct rfl _ _ w.heap.size 33 #[.int .i64 0, .string ⟨#[]⟩, .int .i64 0, .int .i64 0] (0, 0) _ rfl (blk_put (blk_put (blk_put (blk_put BK.out 0 _ rfl) 1 _ rfl) 2 _ rfl) 3 _ rfl) Tryd.underlying33 rfl (by kernel_rfl)) rfl ?_
      unfold OnePost
      rw [HL.out, HWE.out 11 (by unfold HLex.named; rw [HH.out]; simp only [Option.map_some, Option.getD_some, HD.out]; rw [if_pos trivial, HA.out, if_neg (by simp), if_pos (.inr ⟨h1, by rw [hc48.out]⟩)])]
      exact ⟨rfl, below4 BB.out (Nat.le_refl _) _ _ _ _⟩
     ·have j3 : ((c.toNat : Int) == 48) = false := by simp; omega
      have H0 := Lib.hid h0
      clear h0
      have hall : ∀ d ∈ wd, digit d = true := by
       intro d hd
       have h1 : wordly d = true := by rw [← HW.out] at hd; exact HLex.tw_all _ _ d hd
       refine HLex.wordly_digit h1 fun h2 => ?_
       have : wd.any (fun c => decide (57 < c.toNat)) = true := List.any_eq_true.2 ⟨d, hd, by simpa using h2⟩
       rw [HA.out] at this; cases this
      have hnum := number_is (s.extract at_ (at_ + wd.length)) (by rw [HX.out]; show wd.toArray.size ≤ 18; simp; omega) (by rw [HX.out]; simpa using hall)
      rw [HX.out] at hnum
      simp only [List.toList_toArray] at hnum
      rw [← HX.out] at hnum
      have HN := Lib.hid hnum
      clear hnum hall
      go_wp2_with fail
      refine (gossamerref01_number.calls 20 _ _ _ HN.out).mono ?_
      rintro e w4 ⟨rfl, hd⟩
      have n0_ := Lib.hid (blk_below (blk_far (p := ⟨g2, 0, none⟩) BK.out q1 (.int .i64 (3))) hd.below)
      have n1_ := Lib.hid (below_step (BB.out.setCell (p := ⟨g2, 0, none⟩) (by show w.heap.size ≤ g2; omega) (.int .i64 (3))) hd.below)
      have n2_ := Lib.hid (blk_below (blk_put BT.out 0 (.int .i64 (3)) rfl) hd.below)
      clear BK BB BT hd c0 c1 c2 c3 z0 z1 z2 z3 d0 d1 d2 d3 y0 y1 y2 y3
      have BK := n0_; have BB := n1_; have BT := n2_
      clear n0_ n1_ n2_
      have c0 := blk_cell BK.out 0; have c1 := blk_cell BK.out 1; have c2 := blk_cell BK.out 2; have c3 := blk_cell BK.out 3
      have z0 := blk_frozen BK.out 0; have z1 := blk_frozen BK.out 1; have z2 := blk_frozen BK.out 2; have z3 := blk_frozen BK.out 3
      have d0 := blk_cell BT.out 0; have d1 := blk_cell BT.out 1; have d2 := blk_cell BT.out 2; have d3 := blk_cell BT.out 3
      have y0 := blk_frozen BT.out 0; have y1 := blk_frozen BT.out 1; have y2 := blk_frozen BT.out 2; have y3 := blk_frozen BT.out 3
      simp only [List.getElem?_toArray, List.getElem?_cons_zero, List.getElem?_cons_succ] at c0 c1 c2 c3
      simp at d0 d1 d2 d3
      go_wp2_with fail
      refine bodyPost_ret (results_ct rfl _ _ w.heap.size 33 #[.int .i64 3, .string (s.extract at_ (at_ + wd.length)), .int .i64 (num wd : Int), .int .i64 (at_ : Int)] (0, 0) _ rfl (blk_put (blk_put (blk_put (blk_put (blk_far (p := ⟨g2, 2, none⟩) BK.out q1 _) 0 _ rfl) 1 _ rfl) 2 _ rfl) 3 _ rfl) Tryd.underlying33 rfl (by kernel_rfl)) rfl ?_
      unfold OnePost
      rw [HL.out, HWA.out 3 (num wd) (by unfold HLex.named; rw [HH.out]; simp only [Option.map_some, Option.getD_some, HD.out]; rw [if_pos trivial, HA.out, if_neg (by simp), if_neg (by rintro (h | ⟨h, h'⟩) <;> first|exact absurd h h18|exact absurd h h1|exact absurd (congrArg UInt8.toNat (Option.some.inj h')) H0.out)]), HX.out]
      exact ⟨rfl, below4 (BB.out.setCell (p := ⟨g2, 2, none⟩) (by show w.heap.size ≤ g2; omega) _) (Nat.le_refl _) _ _ _ _⟩
    ·have j2 : decide ((wd.length : Int) > 1) = false := by simp; omega
     have hall : ∀ d ∈ wd, digit d = true := by
      intro d hd
      have h1 : wordly d = true := by rw [← HW.out] at hd; exact HLex.tw_all _ _ d hd
      refine HLex.wordly_digit h1 fun h2 => ?_
      have : wd.any (fun c => decide (57 < c.toNat)) = true := List.any_eq_true.2 ⟨d, hd, by simpa using h2⟩
      rw [HA.out] at this; cases this
     have hnum := number_is (s.extract at_ (at_ + wd.length)) (by rw [HX.out]; show wd.toArray.size ≤ 18; simp; omega) (by rw [HX.out]; simpa using hall)
     rw [HX.out] at hnum
     simp only [List.toList_toArray] at hnum
     rw [← HX.out] at hnum
     have HN := Lib.hid hnum
     clear hnum hall
     go_wp2_with fail
     refine (gossamerref01_number.calls 20 _ _ _ HN.out).mono ?_
     rintro e w4 ⟨rfl, hd⟩
     have n0_ := Lib.hid (blk_below (blk_far (p := ⟨g2, 0, none⟩) BK.out q1 (.int .i64 (3))) hd.below)
     have n1_ := Lib.hid (below_step (BB.out.setCell (p := ⟨g2, 0, none⟩) (by show w.heap.size ≤ g2; omega) (.int .i64 (3))) hd.below)
     have n2_ := Lib.hid (blk_below (blk_put BT.out 0 (.int .i64 (3)) rfl) hd.below)
     clear BK BB BT hd c0 c1 c2 c3 z0 z1 z2 z3 d0 d1 d2 d3 y0 y1 y2 y3
     have BK := n0_; have BB := n1_; have BT := n2_
     clear n0_ n1_ n2_
     have c0 := blk_cell BK.out 0; have c1 := blk_cell BK.out 1; have c2 := blk_cell BK.out 2; have c3 := blk_cell BK.out 3
     have z0 := blk_frozen BK.out 0; have z1 := blk_frozen BK.out 1; have z2 := blk_frozen BK.out 2; have z3 := blk_frozen BK.out 3
     have d0 := blk_cell BT.out 0; have d1 := blk_cell BT.out 1; have d2 := blk_cell BT.out 2; have d3 := blk_cell BT.out 3
     have y0 := blk_frozen BT.out 0; have y1 := blk_frozen BT.out 1; have y2 := blk_frozen BT.out 2; have y3 := blk_frozen BT.out 3
     simp only [List.getElem?_toArray, List.getElem?_cons_zero, List.getElem?_cons_succ] at c0 c1 c2 c3
     simp at d0 d1 d2 d3
     go_wp2_with fail
     refine bodyPost_ret (results_ct rfl _ _ w.heap.size 33 #[.int .i64 3, .string (s.extract at_ (at_ + wd.length)), .int .i64 (num wd : Int), .int .i64 (at_ : Int)] (0, 0) _ rfl (blk_put (blk_put (blk_put (blk_put (blk_far (p := ⟨g2, 2, none⟩) BK.out q1 _) 0 _ rfl) 1 _ rfl) 2 _ rfl) 3 _ rfl) Tryd.underlying33 rfl (by kernel_rfl)) rfl ?_
     unfold OnePost
     rw [HL.out, HWA.out 3 (num wd) (by unfold HLex.named; rw [HH.out]; simp only [Option.map_some, Option.getD_some, HD.out]; rw [if_pos trivial, HA.out, if_neg (by simp), if_neg (by rintro (h | ⟨h, h'⟩) <;> first|exact absurd h h18|exact absurd h h1|exact absurd (congrArg UInt8.toNat (Option.some.inj h')) H0.out)]), HX.out]
     exact ⟨rfl, below4 (BB.out.setCell (p := ⟨g2, 2, none⟩) (by show w.heap.size ≤ g2; omega) _) (Nat.le_refl _) _ _ _ _⟩
 ·have hd' : digit c = false := by simpa using hd
  clear hd
  obtain ⟨kc, hkc, e3⟩ : ∃ kc : Nat, kc = (if upper c then 2 else 1) ∧ cl c = (kc : Int) := by
   refine ⟨_, rfl, ?_⟩
   unfold cl
   cases h1 : lower c
   ·cases h2 : upper c
    ·have := HLex.wordly_low HC.out hd' h2; rw [h1] at this; cases this
    ·rfl
   ·rw [(HLex.low_not h1).1]; rfl
  have hk3 : kc = 1 ∨ kc = 2 := by rw [hkc]; cases upper c <;> simp
  have HD := Lib.hid hd'; have HK := Lib.hid hkc
  clear hd' hkc
  rw [e3]
  clear e3
  have j0 : ((kc : Int) == 3) = false := by simp; omega
  by_cases h16 : 16 < wd.length
  ·have j1 : decide ((wd.length : Int) > 16) = true := by simp; omega
   go_wp2_with fail
   refine bodyPost_ret (results_ct rfl _ _ w.heap.size 33 #[.int .i64 0, .string ⟨#[]⟩, .int .i64 0, .int .i64 0] (0, 0) _ rfl (blk_put (blk_put (blk_put (blk_put BK.out 0 _ rfl) 1 _ rfl) 2 _ rfl) 3 _ rfl) Tryd.underlying33 rfl (by kernel_rfl)) rfl ?_
   unfold OnePost
   rw [HL.out, HWE.out 11 (by unfold HLex.named; rw [HH.out]; simp only [Option.map_some, Option.getD_some, HD.out]; rw [if_neg (by simp)]; rw [if_pos h16])]
   exact ⟨rfl, below4 BB.out (Nat.le_refl _) _ _ _ _⟩
  ·have j1 : decide ((wd.length : Int) > 16) = false := by simp; omega
   have hword := rword_is (s.extract at_ (at_ + wd.length))
   rw [HX.out] at hword
   simp only [List.toList_toArray] at hword
   rw [← HX.out] at hword
   cases hiw : HLex.isWord wd with
   | true =>
    rw [hiw] at hword
    have HN := Lib.hid hword; have HI := Lib.hid hiw
    clear hword hiw
    go_wp2_with fail
    refine (gossamerref01_Word.calls _ _ _ HN.out).mono ?_
    rintro e w4 ⟨rfl, hd⟩
    have n0_ := Lib.hid (blk_below (blk_far (p := ⟨g2, 0, none⟩) BK.out q1 (.int .i64 ((kc : Int)))) hd.below)
    have n1_ := Lib.hid (below_step (BB.out.setCell (p := ⟨g2, 0, none⟩) (by show w.heap.size ≤ g2; omega) (.int .i64 ((kc : Int)))) hd.below)
    have n2_ := Lib.hid (blk_below (blk_put BT.out 0 (.int .i64 ((kc : Int))) rfl) hd.below)
    clear BK BB BT hd c0 c1 c2 c3 z0 z1 z2 z3 d0 d1 d2 d3 y0 y1 y2 y3
    have BK := n0_; have BB := n1_; have BT := n2_
    clear n0_ n1_ n2_
    have c0 := blk_cell BK.out 0; have c1 := blk_cell BK.out 1; have c2 := blk_cell BK.out 2; have c3 := blk_cell BK.out 3
    have z0 := blk_frozen BK.out 0; have z1 := blk_frozen BK.out 1; have z2 := blk_frozen BK.out 2; have z3 := blk_frozen BK.out 3
    have d0 := blk_cell BT.out 0; have d1 := blk_cell BT.out 1; have d2 := blk_cell BT.out 2; have d3 := blk_cell BT.out 3
    have y0 := blk_frozen BT.out 0; have y1 := blk_frozen BT.out 1; have y2 := blk_frozen BT.out 2; have y3 := blk_frozen BT.out 3
    simp only [List.getElem?_toArray, List.getElem?_cons_zero, List.getElem?_cons_succ] at c0 c1 c2 c3
    simp at d0 d1 d2 d3
    go_wp2_with fail
    refine bodyPost_ret (results_ct rfl _ _ w.heap.size 33 #[.int .i64 4, .string (s.extract at_ (at_ + wd.length)), .int .i64 0, .int .i64 (at_ : Int)] (0, 0) _ rfl (blk_put (blk_put (blk_put (blk_put (blk_far (p := ⟨g2, 0, none⟩) BK.out q1 _) 0 _ rfl) 1 _ rfl) 2 _ rfl) 3 _ rfl) Tryd.underlying33 rfl (by kernel_rfl)) rfl ?_
    unfold OnePost
    rw [HL.out, HWA.out 4 0 (by unfold HLex.named; rw [HH.out]; simp only [Option.map_some, Option.getD_some, HD.out]; rw [if_neg (by simp)]; rw [if_neg h16, if_pos HI.out]), HX.out]
    exact ⟨rfl, below4 (BB.out.setCell (p := ⟨g2, 0, none⟩) (by show w.heap.size ≤ g2; omega) _) (Nat.le_refl _) _ _ _ _⟩
   | false =>
    rw [hiw] at hword
    have HN := Lib.hid hword; have HI := Lib.hid hiw
    clear hword hiw
    go_wp2_with fail
    refine (gossamerref01_Word.calls _ _ _ HN.out).mono ?_
    rintro e w4 ⟨rfl, hd⟩
    have n0_ := Lib.hid (blk_below (blk_far (p := ⟨g2, 0, none⟩) BK.out q1 (.int .i64 ((kc : Int)))) hd.below)
    have n1_ := Lib.hid (below_step (BB.out.setCell (p := ⟨g2, 0, none⟩) (by show w.heap.size ≤ g2; omega) (.int .i64 ((kc : Int)))) hd.below)
    have n2_ := Lib.hid (blk_below (blk_put BT.out 0 (.int .i64 ((kc : Int))) rfl) hd.below)
    clear BK BB BT hd c0 c1 c2 c3 z0 z1 z2 z3 d0 d1 d2 d3 y0 y1 y2 y3
    have BK := n0_; have BB := n1_; have BT := n2_
    clear n0_ n1_ n2_
    have c0 := blk_cell BK.out 0; have c1 := blk_cell BK.out 1; have c2 := blk_cell BK.out 2; have c3 := blk_cell BK.out 3
    have z0 := blk_frozen BK.out 0; have z1 := blk_frozen BK.out 1; have z2 := blk_frozen BK.out 2; have z3 := blk_frozen BK.out 3
    have d0 := blk_cell BT.out 0; have d1 := blk_cell BT.out 1; have d2 := blk_cell BT.out 2; have d3 := blk_cell BT.out 3
    have y0 := blk_frozen BT.out 0; have y1 := blk_frozen BT.out 1; have y2 := blk_frozen BT.out 2; have y3 := blk_frozen BT.out 3
    simp only [List.getElem?_toArray, List.getElem?_cons_zero, List.getElem?_cons_succ] at c0 c1 c2 c3
    simp at d0 d1 d2 d3
    go_wp2_with fail
    refine bodyPost_ret (results_ct rfl _ _ w.heap.size 33 #[.int .i64 (kc : Int), .string (s.extract at_ (at_ + wd.length)), .int .i64 0, .int .i64 (at_ : Int)] (0, 0) _ rfl (blk_put (blk_put (blk_put (blk_put BK.out 0 _ rfl) 1 _ rfl) 2 _ rfl) 3 _ rfl) Tryd.underlying33 rfl (by kernel_rfl)) rfl ?_
    unfold OnePost
    rw [HL.out, HWA.out kc 0 (by unfold HLex.named; rw [HH.out]; simp only [Option.map_some, Option.getD_some, HD.out]; rw [if_neg (by simp)]; rw [if_neg h16, if_neg (by rw [HI.out]; simp), HK.out]; by_cases hu : upper c = true <;> simp [hu]), HX.out]
    exact ⟨rfl, below4 BB.out (Nat.le_refl _) _ _ _ _⟩
theorem one_any (s : ByteArray) (at_ : Nat) (w : World) (hs : s.size ≤ 1100000) (hat : at_ < s.size) : Calls Tryd.prog 16 #[.string s, .int .i64 at_] w (OnePost s at_ w) := by
 cases hl : s.data.toList.drop at_ with
 | nil =>
  have := List.drop_eq_nil_iff.1 hl
  rw [size_len] at this; omega
 | cons c r =>
  cases hc : wordly c with
  | true => exact one_word s at_ w hs c r hl hc
  | false => exact one_sign s at_ w hs c r hl (by simp [List.takeWhile, hc])
end Refs
end Go.Proofs.YthdkjfhpbigdpaaDoor.Pure

namespace Go.Proofs.YthdkjfhpbigdpaaDoor.Q
open Go.RowKit Go.Proofs.YthdkjfhpbigdpaaDoorW.PrintWords Go.Proofs.YthdkjfhpbigdpaaDoorW.PrintLast Go.Proofs.YthdkjfhpbigdpaaDoorW.PrintMore
attribute [local go_sem] max2_int min2_int max_two min_two max_three min_three max_four min_four
set_option linter.unusedVariables false
set_option linter.unusedSimpArgs false

def gossamerref01_One.f (_k : Nat) (a0 : ByteArray) (a1 : Int) : Option (Int × ByteArray × Int × Int × Int) :=
 if a0.size ≤ 1100000 ∧ 0 ≤ a1 ∧ a1.toNat < a0.size then
  match HLex.first (a0.data.toList.drop a1.toNat) with
  | .ok (k, t, n) => some ((k : Int), ⟨t.toArray⟩, (n : Int), a1, 0)
  | .error er => some (0, (⟨#[]⟩ : ByteArray), 0, 0, (er : Int))
 else none
theorem gossamerref01_One.mono : ∀ a0 a1 k, LeO (gossamerref01_One.f k a0 a1) (gossamerref01_One.f (k + 1) a0 a1) := fun _ _ _ _ h => h
theorem gossamerref01_One.calls (k : Nat) (a0 : ByteArray) (a1 : Int) (r1 : Int) (r2 : ByteArray) (r3 : Int) (r4 : Int) (r5 : Int) (w : World) (h : gossamerref01_One.f k a0 a1 = some (r1, r2, r3, r4, r5)) :
  Calls Tryd.prog 16 #[.string a0, .int .i64 a1] w fun e w' => e = .returned (.tuple #[.agg #[.int .i64 r1, .string r2, .int .i64 r3, .int .i64 r4], .int .i64 r5]) ∧ Below w.heap.size w w' := by
 unfold gossamerref01_One.f at h
 split at h
 ·rename_i hc
  have ea : ((a1.toNat : Nat) : Int) = a1 := Int.toNat_of_nonneg hc.2.1
  have hh := Pure.Refs.one_any a0 a1.toNat w hc.1 hc.2.2
  rw [ea] at hh
  refine Calls.mono hh ?_
  intro e w' ho
  unfold Pure.Refs.OnePost at ho
  rw [ea] at ho
  cases hf : HLex.first (a0.data.toList.drop a1.toNat) with
  | ok x =>
   obtain ⟨kk, t, n⟩ := x
   rw [hf] at h ho
   simp only [Option.some.injEq, Prod.mk.injEq] at h
   obtain ⟨h1, h2, h3, h4, h5⟩ := h
   rw [← h1, ← h2, ← h3, ← h4, ← h5]
   exact ho
  | error er =>
   rw [hf] at h ho
   simp only [Option.some.injEq, Prod.mk.injEq] at h
   obtain ⟨h1, h2, h3, h4, h5⟩ := h
   rw [← h1, ← h2, ← h3, ← h4, ← h5]
   exact ho
 ·cases h

end Go.Proofs.YthdkjfhpbigdpaaDoor.Q
