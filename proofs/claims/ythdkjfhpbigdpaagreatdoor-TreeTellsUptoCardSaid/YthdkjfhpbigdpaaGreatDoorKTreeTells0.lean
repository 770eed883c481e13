-- Written for this claim: several texts in one.
import Derived.Test.YthdkjfhpbigdpaaGreatDoorProg
import Derived.Below
import Derived.Deep.Draws
import Derived.Deep.AppendLies
import Derived.Maps.AppendAt
import Derived.OwnWalk
import Derived.Laws.BytesArg
import Derived.Laws.MakeOwn
import Derived.Laws.OwnMore
import Derived.Deep.OwnRows
import Derived.Tactics
import Derived.Lib.ConvBytes
import Derived.Laws.Slices
import Derived.WalkKit
import Derived.KernelRfl
import Derived.RowKit3
import Derived.Deep.LoopGhost
import Derived.Deep.QuietTactic
import Derived.BigQuiet
import Derived.WideLaws
import Derived.Deep.DeepCutAuto
import Derived.Deep.CutBlock
import Derived.Deep.RegionHeld3
import Derived.Laws.Rows
import Derived.Lib.AppendStr
import Derived.ArgAppend
import Derived.Laws.IdiomCopy
import Derived.OrdersHeld
import Derived.Laws.BitsLemmas
import Derived.RowKit
import Derived.Test.YthdkjfhpbigdpaaGreatDoorWWords
import Derived.Test.YthdkjfhpbigdpaaGreatDoorWLast
import Derived.Test.YthdkjfhpbigdpaaGreatDoorWTab
import Derived.Test.YthdkjfhpbigdpaaGreatDoorWQPut
import Derived.Test.YthdkjfhpbigdpaaGreatDoorWApart
import Derived.Test.YthdkjfhpbigdpaaGreatDoorWArr
import Derived.Test.YthdkjfhpbigdpaaGreatDoorWZeros
import Derived.Test.YthdkjfhpbigdpaaGreatDoorWFoot
import Derived.Test.YthdkjfhpbigdpaaGreatDoorWKept
import Derived.Test.YthdkjfhpbigdpaaGreatDoorWShare
import Derived.Test.YthdkjfhpbigdpaaGreatDoorWN
import Derived.Test.YthdkjfhpbigdpaaGreatDoorWRepsOne
import Derived.Test.YthdkjfhpbigdpaaGreatDoorWGuard
import Derived.Test.YthdkjfhpbigdpaaGreatDoorWNEv
import Derived.Test.YthdkjfhpbigdpaaGreatDoorWMore
import Derived.Shelf.GgClosure.StringsIndexFunc
import Derived.Laws.RangeString
import Derived.Laws.RangeAny
import Derived.Lib.Atoi
import Derived.Lib.SlTrimSet
import Derived.Shelf.Strings.Trim
import Derived.Shelf.Small.Utf8
import Derived.Shelf.Small.Strs
import Derived.Shelf.Strconv.Atoi
import Derived.Shelf.Strconv.Itoa0
import Derived.Shelf.Strconv.Itoa1
import Derived.Shelf.LaysM
import Derived.Shelf.Strconv.Itoa2
import Derived.Shelf.Strconv.Itoa3
import Derived.Shelf.Strings.Search1
import Derived.Ground.GgwProg
import Derived.Shelf.GgClosure.StringsIndexFuncTop
import Derived.Shelf.Strings.Fields
import Derived.Shelf.Strings.SplitShaped
import Derived.Shelf.Unicode.Latin
import Derived.Shelf.Unicode.Decode
import Derived.Shelf.Strings.Runes
import Derived.Shelf.Strings.AsciiSet
import Derived.Shelf.Unicode.DecodeSlow
import Derived.Shelf.Unicode.DecodeAny
import Derived.Shelf.Unicode.Is16White
import Derived.Shelf.Unicode.IsSpaceAny
import Derived.Shelf.Unicode.Is16WhiteD
import Derived.Shelf.Unicode.IsSpaceAnyD
import Derived.Shelf.Strings.FieldsAny
import Derived.Shelf.Strings.FieldsFuncAny
import Derived.Shelf.Unicode.Is16Any
import Derived.Shelf.Unicode.Is32Any
import Derived.Shelf.Unicode.ExclAny
import Derived.Shelf.Slices.Turned
import Derived.Shelf.Strings.SlTrimAscii
import Derived.Tactics2
import Derived.Outline
import Derived.WalkSmall
namespace Go.Proofs.YthdkjfhpbigdpaaGreatDoor.Q
open Go.RowKit Go.Proofs.YthdkjfhpbigdpaaGreatDoorW.PrintWords Go.Proofs.YthdkjfhpbigdpaaGreatDoorW.PrintLast Go.Proofs.YthdkjfhpbigdpaaGreatDoorW.PrintMore
attribute [local go_sem] max2_int min2_int max_two min_two max_three min_three max_four min_four
set_option linter.unusedVariables false
set_option linter.unusedSimpArgs false



def errW : Option Int → Value
 | none => .nilIface
 | some c => .iface 0 (.int .i64 c)
theorem errW_none : errW none = .nilIface := rfl
theorem errW_some (c : Int) : errW (some c) = .iface 0 (.int .i64 c) := rfl

theorem info24 : (Tryz.prog.info? 24).map (fun i => (i.zero, i.size, i.bytes)) = some (some (.agg #[(.int .i64 0), (.string ⟨#[]⟩), (.int .i64 0), (.int .i64 0), (.slice none 0 0)]), 5, 64) := by kernel_rfl
structure S24 where
 f0 : Int
 f1 : ByteArray
 f2 : Int
 f3 : Int
 f4 : (List S24)
def z24 : S24 := ⟨(0 : Int), (⟨#[]⟩ : ByteArray), (0 : Int), (0 : Int), ([] : List S24)⟩
def F24 (d : Kd S24) : Kd S24 := Kd.iso (Kd.pair (Kd.int .i64) (Kd.pair Kd.string (Kd.pair (Kd.int .i64) (Kd.pair (Kd.int .i64) (Kd.slice 24 d))))) (fun x : S24 => (x.f0, x.f1, x.f2, x.f3, x.f4))
theorem mono24 : Kd.Mono F24 := Kd.mono_iso _ (Kd.mono_pair (Kd.mono_const _) (Kd.mono_pair (Kd.mono_const _) (Kd.mono_pair (Kd.mono_const _) (Kd.mono_pair (Kd.mono_const _) (Kd.mono_slice 24 Kd.mono_id)))))
theorem sub24 : Kd.Sub F24 [24] := Kd.sub_iso _ (Kd.sub_pair (Kd.sub_const _ (by decide)) (Kd.sub_pair (Kd.sub_const _ (by decide)) (Kd.sub_pair (Kd.sub_const _ (by decide)) (Kd.sub_pair (Kd.sub_const _ (by decide)) (Kd.sub_slice 24 (by decide) Kd.sub_id)))))
theorem sz24 : ∀ n, (Kd.upto F24 5 [24] n).sz = 5 := Kd.upto_sz (fun _ => rfl)
def k24 : Kd S24 := Kd.fix F24 5 [24] sz24 (Kd.upto_E sub24)
theorem k24_open {w : World} {x : S24} {cs : List Value} (h : k24.K w x cs) : ∃ A4 c4, cs = [.int .i64 x.f0, .string x.f1, .int .i64 x.f2, .int .i64 x.f3, .slice A4 x.f4.length c4] ∧ x.f4.length ≤ c4 ∧ k24.C w A4 x.f4.length x.f4 := by
 obtain ⟨n, h⟩ := h
 cases n with
 | zero => exact h.elim
 | succ n =>
  obtain ⟨_, _, rfl, rfl, ⟨_, _, rfl, rfl, ⟨_, _, rfl, rfl, ⟨_, _, rfl, rfl, ⟨A4, c4, rfl, l4, g4⟩⟩⟩⟩⟩ := h
  exact ⟨A4, c4, rfl, l4, Kd.fix_C g4⟩
theorem k24_openM {w : World} {base : Nat} {ok : Nat → Prop} {x : S24} {cs : List Value} (h : k24.M w base ok x cs) : ∃ v4, cs = [.int .i64 x.f0, .string x.f1, .int .i64 x.f2, .int .i64 x.f3, v4] ∧ k24.R 24 w base ok v4 x.f4 := by
 obtain ⟨n, h⟩ := h
 cases n with
 | zero => exact h.elim
 | succ n =>
  obtain ⟨_, _, rfl, rfl, ⟨_, _, rfl, rfl, ⟨_, _, rfl, rfl, ⟨_, _, rfl, rfl, ⟨v4, rfl, g4⟩⟩⟩⟩⟩ := h
  exact ⟨v4, rfl, Kd.fix_R g4⟩
theorem k24_mk (w : World) (x : S24) {A4 : Option Addr} {c4 : Nat} (l4 : x.f4.length ≤ c4) (g4 : k24.C w A4 x.f4.length x.f4) : k24.K w x [.int .i64 x.f0, .string x.f1, .int .i64 x.f2, .int .i64 x.f3, .slice A4 x.f4.length c4] := by
 obtain ⟨n4, q4⟩ := Kd.fix_C_back mono24 g4
 have r4 := Kd.upto_C_le mono24 sz24 (show n4 ≤ n4 by omega) q4
 exact ⟨n4 + 1, ⟨[.int .i64 x.f0], [.string x.f1, .int .i64 x.f2, .int .i64 x.f3, .slice A4 x.f4.length c4], rfl, rfl, ⟨[.string x.f1], [.int .i64 x.f2, .int .i64 x.f3, .slice A4 x.f4.length c4], rfl, rfl, ⟨[.int .i64 x.f2], [.int .i64 x.f3, .slice A4 x.f4.length c4], rfl, rfl, ⟨[.int .i64 x.f3], [.slice A4 x.f4.length c4], rfl, rfl, ⟨A4, c4, rfl, l4, r4⟩⟩⟩⟩⟩⟩
theorem k24_mkM (w : World) (base : Nat) (ok : Nat → Prop) (x : S24) {v4 : Value} (g4 : k24.R 24 w base ok v4 x.f4) : k24.M w base ok x [.int .i64 x.f0, .string x.f1, .int .i64 x.f2, .int .i64 x.f3, v4] := by
 obtain ⟨n4, q4⟩ := Kd.fix_R_back mono24 g4
 have r4 := Kd.upto_R_le mono24 sz24 (show n4 ≤ n4 by omega) q4
 exact ⟨n4 + 1, ⟨[.int .i64 x.f0], [.string x.f1, .int .i64 x.f2, .int .i64 x.f3, v4], rfl, rfl, ⟨[.string x.f1], [.int .i64 x.f2, .int .i64 x.f3, v4], rfl, rfl, ⟨[.int .i64 x.f2], [.int .i64 x.f3, v4], rfl, rfl, ⟨[.int .i64 x.f3], [v4], rfl, rfl, ⟨v4, rfl, r4⟩⟩⟩⟩⟩⟩
theorem k24_openF {W : World} {ok : Nat → Prop} {x : S24} {cs : List Value} (h : Kd.FK k24 W ok x cs) : ∃ A4 c4, cs = [.int .i64 x.f0, .string x.f1, .int .i64 x.f2, .int .i64 x.f3, .slice A4 x.f4.length c4] ∧ x.f4.length ≤ c4 ∧ Kd.F k24 W ok A4 x.f4.length x.f4 := by
 obtain ⟨A4, c4, rfl, l4, _⟩ := k24_open (Kd.FK_now h)
 exact ⟨A4, c4, rfl, l4, (fun W' hW => by obtain ⟨A4_, c4_, he, l4_, g4_⟩ := k24_open (h W' hW); injection (Option.some.inj (show some (Value.slice A4 x.f4.length c4) = some (Value.slice A4_ x.f4.length c4_) from congrArg (fun l => l[4]?) he)) with ha_ _ _; rw [ha_]; exact g4_)⟩
theorem k24_mkF (W : World) (ok : Nat → Prop) (x : S24) {A4 : Option Addr} {c4 : Nat} (l4 : x.f4.length ≤ c4) (g4 : Kd.F k24 W ok A4 x.f4.length x.f4) : Kd.FK k24 W ok x [.int .i64 x.f0, .string x.f1, .int .i64 x.f2, .int .i64 x.f3, .slice A4 x.f4.length c4] := fun W2 hW => k24_mk W2 x l4 (g4 W2 hW)
def rd_T24 (xs : List S24) (i : Int) : S24 := xs.getD i.toNat z24
theorem at_T24 {w : World} {A : Option Addr} {n : Nat} {xs : List S24} (h : Kd.C k24 w A n xs) (i : Int) (h0 : 0 ≤ i) (h1 : i < n) : ∃ ad A4 c4, A = some ad ∧ w.cell? (ad.add (i.toNat * 5)) = some (.int .i64 (rd_T24 xs i).f0) ∧ w.cell? ⟨(ad.add (i.toNat * 5)).block, (ad.add (i.toNat * 5)).off + 1, none⟩ = some (.string (rd_T24 xs i).f1) ∧ w.cell? ⟨(ad.add (i.toNat * 5)).block, (ad.add (i.toNat * 5)).off + 2, none⟩ = some (.int .i64 (rd_T24 xs i).f2) ∧ w.cell? ⟨(ad.add (i.toNat * 5)).block, (ad.add (i.toNat * 5)).off + 3, none⟩ = some (.int .i64 (rd_T24 xs i).f3) ∧ w.cell? ⟨(ad.add (i.toNat * 5)).block, (ad.add (i.toNat * 5)).off + 4, none⟩ = some (.slice A4 (rd_T24 xs i).f4.length c4) ∧ (rd_T24 xs i).f4.length ≤ c4 ∧ k24.C w A4 (rd_T24 xs i).f4.length (rd_T24 xs i).f4 := by
 obtain ⟨ad, c, e, _, hK, hc0⟩ := Kd.C_get h z24 i h0 h1
 have hc : ∀ j u, c[j]? = some u → w.cell? (ad.add (i.toNat * 5 + j)) = some u := hc0
 obtain ⟨A4, c4, rfl, l4, g4⟩ := k24_open hK
 exact ⟨ad, A4, c4, e, hc 0 _ rfl, by rw [← add_field _ _ 1 (by omega)]; exact hc 1 _ rfl, by rw [← add_field _ _ 2 (by omega)]; exact hc 2 _ rfl, by rw [← add_field _ _ 3 (by omega)]; exact hc 3 _ rfl, by rw [← add_field _ _ 4 (by omega)]; exact hc 4 _ rfl, l4, g4⟩

structure S49 where
 f0 : Int
 f1 : ByteArray
 f2 : Int
 f3 : Int
def z49 : S49 := ⟨(0 : Int), (⟨#[]⟩ : ByteArray), (0 : Int), (0 : Int)⟩
def k49 : Kd S49 := Kd.iso (Kd.pair (Kd.int .i64) (Kd.pair Kd.string (Kd.pair (Kd.int .i64) (Kd.int .i64)))) (fun x : S49 => (x.f0, x.f1, x.f2, x.f3))
theorem k49_open {w : World} {x : S49} {cs : List Value} (h : k49.K w x cs) : cs = [.int .i64 x.f0, .string x.f1, .int .i64 x.f2, .int .i64 x.f3] := by
 obtain ⟨_, _, rfl, rfl, ⟨_, _, rfl, rfl, ⟨_, _, rfl, rfl, rfl⟩⟩⟩ := h
 exact rfl
theorem k49_openM {w : World} {base : Nat} {ok : Nat → Prop} {x : S49} {cs : List Value} (h : k49.M w base ok x cs) : cs = [.int .i64 x.f0, .string x.f1, .int .i64 x.f2, .int .i64 x.f3] := by
 obtain ⟨_, _, rfl, rfl, ⟨_, _, rfl, rfl, ⟨_, _, rfl, rfl, rfl⟩⟩⟩ := h
 exact rfl
theorem k49_mk (w : World) (x : S49)  : k49.K w x [.int .i64 x.f0, .string x.f1, .int .i64 x.f2, .int .i64 x.f3] := ⟨[.int .i64 x.f0], [.string x.f1, .int .i64 x.f2, .int .i64 x.f3], rfl, rfl, ⟨[.string x.f1], [.int .i64 x.f2, .int .i64 x.f3], rfl, rfl, ⟨[.int .i64 x.f2], [.int .i64 x.f3], rfl, rfl, rfl⟩⟩⟩
theorem k49_mkM (w : World) (base : Nat) (ok : Nat → Prop) (x : S49)  : k49.M w base ok x [.int .i64 x.f0, .string x.f1, .int .i64 x.f2, .int .i64 x.f3] := ⟨[.int .i64 x.f0], [.string x.f1, .int .i64 x.f2, .int .i64 x.f3], rfl, rfl, ⟨[.string x.f1], [.int .i64 x.f2, .int .i64 x.f3], rfl, rfl, ⟨[.int .i64 x.f2], [.int .i64 x.f3], rfl, rfl, rfl⟩⟩⟩
theorem k49_mkF (W : World) (ok : Nat → Prop) (x : S49) : Kd.FK k49 W ok x [.int .i64 x.f0, .string x.f1, .int .i64 x.f2, .int .i64 x.f3] := fun W2 _ => k49_mk W2 x
def rd_T49 (xs : List S49) (i : Int) : S49 := xs.getD i.toNat z49
theorem at_T49 {w : World} {A : Option Addr} {n : Nat} {xs : List S49} (h : Kd.C k49 w A n xs) (i : Int) (h0 : 0 ≤ i) (h1 : i < n) : ∃ ad , A = some ad ∧ w.cell? (ad.add (i.toNat * 4)) = some (.int .i64 (rd_T49 xs i).f0) ∧ w.cell? ⟨(ad.add (i.toNat * 4)).block, (ad.add (i.toNat * 4)).off + 1, none⟩ = some (.string (rd_T49 xs i).f1) ∧ w.cell? ⟨(ad.add (i.toNat * 4)).block, (ad.add (i.toNat * 4)).off + 2, none⟩ = some (.int .i64 (rd_T49 xs i).f2) ∧ w.cell? ⟨(ad.add (i.toNat * 4)).block, (ad.add (i.toNat * 4)).off + 3, none⟩ = some (.int .i64 (rd_T49 xs i).f3) := by
 obtain ⟨ad, c, e, _, hK, hc0⟩ := Kd.C_get h z49 i h0 h1
 have hc : ∀ j u, c[j]? = some u → w.cell? (ad.add (i.toNat * 4 + j)) = some u := hc0
 obtain rfl := k49_open hK
 exact ⟨ad, e, hc 0 _ rfl, by rw [← add_field _ _ 1 (by omega)]; exact hc 1 _ rfl, by rw [← add_field _ _ 2 (by omega)]; exact hc 2 _ rfl, by rw [← add_field _ _ 3 (by omega)]; exact hc 3 _ rfl⟩

def rd_L4 (xs : List (List S49)) (i : Int) : (List S49) := xs.getD i.toNat ([] : List S49)
theorem at_L4 {w : World} {A : Option Addr} {n : Nat} {xs : List (List S49)} (h : Kd.C (Kd.slice 49 k49) w A n xs) (i : Int) (h0 : 0 ≤ i) (h1 : i < n) : ∃ ad A0 c0, A = some ad ∧ w.cell? (ad.add i.toNat) = some (.slice A0 (rd_L4 xs i).length c0) ∧ (rd_L4 xs i).length ≤ c0 ∧ k49.C w A0 (rd_L4 xs i).length (rd_L4 xs i) := by
 obtain ⟨ad, c, e, _, hK, hc0⟩ := Kd.C_get h ([] : List S49) i h0 h1
 have hc : ∀ j u, c[j]? = some u → w.cell? (ad.add (i.toNat * 1 + j)) = some u := hc0
 obtain ⟨A0, c0, rfl, l0, g0⟩ := hK
 exact ⟨ad, A0, c0, e, by have hq := hc 0 _ rfl; rwa [Nat.mul_one, Nat.add_zero] at hq, l0, g0⟩

end Go.Proofs.YthdkjfhpbigdpaaGreatDoor.Q

namespace Go.Proofs.YthdkjfhpbigdpaaGreatDoor.Q
open Go.RowKit Go.Proofs.YthdkjfhpbigdpaaGreatDoorW.PrintWords Go.Proofs.YthdkjfhpbigdpaaGreatDoorW.PrintLast Go.Proofs.YthdkjfhpbigdpaaGreatDoorW.PrintMore
attribute [local go_sem] max2_int min2_int max_two min_two max_three min_three max_four min_four
set_option linter.unusedVariables false
set_option linter.unusedSimpArgs false

mutual
def gossamerref02_Size.l0 : Nat → Int → Int → Int → ByteArray → Int → Int → List (S24) → Option (Int)
 | 0, _, _, _, _, _, _, _ => none
 | k + 1, x3, x4, x167000, x167001, x167002, x167003, x167004 => if x4 < (x167004.length : Int) then (if 0 ≤ x4 then ((gossamerref02_Size.f k ((rd_T24 x167004 x4).f0) ((rd_T24 x167004 x4).f1) ((rd_T24 x167004 x4).f2) ((rd_T24 x167004 x4).f3) ((rd_T24 x167004 x4).f4)).bind fun t168 => (gossamerref02_Size.l0 k (wrap64 (x3 + t168)) (wrap64 (x4 + 1)) x167000 x167001 x167002 x167003 x167004)) else (none)) else (some x3)
def gossamerref02_Size.f : Nat → Int → ByteArray → Int → Int → List (S24) → Option (Int)
 | 0, _, _, _, _, _ => none
 | k + 1, a0_0, a0_1, a0_2, a0_3, l0_4 => gossamerref02_Size.l0 k 1 0 a0_0 a0_1 a0_2 a0_3 l0_4
end
theorem gossamerref02_Size.mono_l : ∀ k, (∀ y0 y1 y2 y3 y4, LeO (gossamerref02_Size.f k y0 y1 y2 y3 y4) (gossamerref02_Size.f (k + 1) y0 y1 y2 y3 y4)) ∧ (∀ y0 y1 y2 y3 y4 y5 y6, LeO (gossamerref02_Size.l0 k y0 y1 y2 y3 y4 y5 y6) (gossamerref02_Size.l0 (k + 1) y0 y1 y2 y3 y4 y5 y6))
 | 0 => ⟨fun _ _ _ _ _ r h => by simp [gossamerref02_Size.f] at h, fun _ _ _ _ _ _ _ r h => by simp [gossamerref02_Size.l0] at h⟩
 | k + 1 => by
  obtain ⟨ih0, ih1⟩ := gossamerref02_Size.mono_l k
  refine ⟨?_, ?_⟩
  ·intro y0 y1 y2 y3 y4
   unfold gossamerref02_Size.f
   repeat' first
  |(with_reducible exact ih0 _ _ _ _ _)
  |(with_reducible exact ih1 _ _ _ _ _ _ _)
  |(with_reducible exact LeO.refl _)
  |(with_reducible exact LeO.none _)
  |(with_reducible refine LeO.ite ?_ ?_)
  |(with_reducible refine LeO.bind ?_ (fun _ => ?_))
  |exact ih0 _ _ _ _ _
  |exact ih1 _ _ _ _ _ _ _
  |exact LeO.none _
  |refine LeO.ite ?_ ?_
  |refine LeO.bind ?_ (fun _ => ?_)
  ·intro y0 y1 y2 y3 y4 y5 y6
   unfold gossamerref02_Size.l0
   repeat' first
  |(with_reducible exact ih0 _ _ _ _ _)
  |(with_reducible exact ih1 _ _ _ _ _ _ _)
  |(with_reducible exact LeO.refl _)
  |(with_reducible exact LeO.none _)
  |(with_reducible refine LeO.ite ?_ ?_)
  |(with_reducible refine LeO.bind ?_ (fun _ => ?_))
  |exact ih0 _ _ _ _ _
  |exact ih1 _ _ _ _ _ _ _
  |exact LeO.none _
  |refine LeO.ite ?_ ?_
  |refine LeO.bind ?_ (fun _ => ?_)
theorem gossamerref02_Size.mono : ∀ a0 a1 a2 a3 a4 k, LeO (gossamerref02_Size.f k a0 a1 a2 a3 a4) (gossamerref02_Size.f (k + 1) a0 a1 a2 a3 a4) := by
 intro a0 a1 a2 a3 a4 k
 obtain ⟨ih0, ih1⟩ := gossamerref02_Size.mono_l k
 exact ih0 a0 a1 a2 a3 a4
set_option maxHeartbeats 8000000 in
set_option maxRecDepth 100000 in
theorem gossamerref02_Size.calls (k : Nat) : ∀ (a0_0 : Int) (a0_1 : ByteArray) (a0_2 : Int) (a0_3 : Int) (A0_4 : Option Addr) (c0_4 : Nat) (l0_4 : List (S24)) (r : Int) (w : World) (hr0_4 : Kd.C k24 w A0_4 l0_4.length l0_4) (hc0_4 : l0_4.length ≤ c0_4) (h : gossamerref02_Size.f k a0_0 a0_1 a0_2 a0_3 l0_4 = some r),
  Calls Tryz.prog 11 #[.agg #[.int .i64 a0_0, .string a0_1, .int .i64 a0_2, .int .i64 a0_3, .slice A0_4 l0_4.length c0_4]] w fun e w' => e = .returned (.int .i64 r) ∧ Below w.heap.size w w' := by
 induction k using Nat.strongRecOn with
 | _ k ih =>
 intro a0_0 a0_1 a0_2 a0_3 A0_4 c0_4 l0_4 r w hr0_4 hc0_4 h
 cases k with
 | zero => exact absurd h (by simp [gossamerref02_Size.f])
 | succ k =>
 simp only [gossamerref02_Size.f] at h
 have hu24 := Tryz.underlying24
 have HR0_4 := Aside0.mk hr0_4
 have HC0_4 := Aside0.mk hc0_4
 clear hr0_4 hc0_4
 have HB := Aside0.mk (Below.refl w.heap.size w)
 have H : (gossamerref02_Size.l0 k 1 0 a0_0 a0_1 a0_2 a0_3 l0_4) = some r := h
 clear h
 have H' := Aside0.mk H
 clear H
 go_enter Tryz.func11, Tryz.ntmps11
 go_wp2_with (first|((with_reducible refine gate_dst (N := 1) rfl ?_); refine box_event ?hg (N := 1) ?hd (cs := #[.int .i64 a0_0, .string a0_1, .int .i64 a0_2, .int .i64 a0_3, .slice A0_4 l0_4.length c0_4]) (t := 24) ?hr ?_; (case hd => rfl); (case hg => rfl); (case hr => first|(go_simp; done)|(go_simp; rfl)); intro gb166 hg w2 hbox hb; have n0_ := Aside0.mk (below_step (by repeat (first|(with_reducible first|exact HB.out|apply below_alloc|apply pw_below_drewN|apply below_drew1)|exact HB.out)) hb); have n1_ := Aside0.mk (hbox); have n2_ := Aside0.mk ((by rw [hg]; exact (below_size (by repeat (first|(with_reducible first|exact HB.out|apply below_alloc|apply pw_below_drewN|apply below_drew1)|exact HB.out))) : w.heap.size ≤ gb166)); have n3_ := Aside0.mk ((by rw [hg]; exact (below_size (by repeat (first|(with_reducible first|exact HB.out|apply below_alloc|apply pw_below_drewN|apply below_drew1)|exact HB.out))) : w.heap.size ≤ gb166)); clear HB; have HB := n0_; have BK166 := n1_; have GW166 := n2_; have GE166 := n3_; clear n0_ n1_ n2_ n3_; clear hb hbox hg))
 go_loopg [3, 4] k (fun kq v3 v4 w' => ∃ (x3_1 : Int) (x4_1 : Int), v3 = .int .i64 x3_1 ∧ v4 = .int .i64 x4_1 ∧ Aside0 (gossamerref02_Size.l0 kq x3_1 x4_1 a0_0 a0_1 a0_2 a0_3 l0_4 = some r) ∧ Aside0 (kq ≤ k) ∧ Aside0 (w'.heap[gb166]? = some (.cells #[.int .i64 a0_0, .string a0_1, .int .i64 a0_2, .int .i64 a0_3, (.slice A0_4 l0_4.length c0_4)] 24 (0, 0))) ∧ Aside0 (Below w.heap.size w w'))
 case atStart => exact ⟨(1), (0), (by first|rfl|(simp; done)|(simp [*]; done)), (by first|rfl|(simp; done)|(simp [*]; done)), H', ⟨Nat.le_refl _⟩, ⟨by (with_reducible repeat (first|refine blk_drewN ?_ _|refine blk_drew ?_|refine blk_alloc ?_ _)); exact BK166.out⟩, ⟨by repeat (first|(with_reducible first|exact HB.out|apply below_alloc|apply pw_below_drewN|apply below_drew1|refine below_set ?_ GE166.out)|exact HB.out)⟩⟩
 case round =>
  clear H'
  try clear c1
  try clear p2
  obtain ⟨x3_1, x4_1, rfl, rfl, HA, HK1, BK166, HB⟩ := hrel
  cases gk with
  | zero => exact absurd HA.out (by simp [gossamerref02_Size.l0])
  | succ k1 =>
   have H := HA.out
   clear HA
   simp only [gossamerref02_Size.l0] at H
   by_cases c3 : x4_1 < (l0_4.length : Int)
   ·rw [if_pos c3] at H
    have c3b0 : decide (x4_1 < (l0_4.length : Int)) = true := decide_eq_true c3
    clear c3
    by_cases c4 : 0 ≤ x4_1
    ·rw [if_pos c4] at H
     have c4b0 : decide (0 ≤ x4_1) = true := decide_eq_true c4
     clear c4
     replace H := Option.bind_eq_some_iff.mp H
     obtain ⟨t168, A50, H⟩ := H
     replace H : (gossamerref02_Size.l0 k1 (wrap64 (x3_1 + t168)) (wrap64 (x4_1 + 1)) a0_0 a0_1 a0_2 a0_3 l0_4) = some r := H
     have A5 := Aside0.mk A50
     clear A50
     have H' := Aside0.mk H
     clear H
     have hcz6_0 : wr.cell? ⟨gb166, 0, none⟩ = some (.int .i64 a0_0) := (blk_cell BK166.out 0).trans rfl
     have hcz6_1 : wr.cell? ⟨gb166, 1, none⟩ = some (.string a0_1) := (blk_cell BK166.out 1).trans rfl
     have hcz6_2 : wr.cell? ⟨gb166, 2, none⟩ = some (.int .i64 a0_2) := (blk_cell BK166.out 2).trans rfl
     have hcz6_3 : wr.cell? ⟨gb166, 3, none⟩ = some (.int .i64 a0_3) := (blk_cell BK166.out 3).trans rfl
     have hcz6_4 : wr.cell? ⟨gb166, 4, none⟩ = some (.slice A0_4 l0_4.length c0_4) := (blk_cell BK166.out 4).trans rfl
     have hfz6_0 := blk_frozen BK166.out 0
     have hfz6_1 := blk_frozen BK166.out 1
     have hfz6_2 := blk_frozen BK166.out 2
     have hfz6_3 := blk_frozen BK166.out 3
     have hfz6_4 := blk_frozen BK166.out 4
     have p167 : 0 ≤ (x4_1 : Int) := of_decide_eq_true (by first|(with_reducible assumption) | assumption)
     have q167 : x4_1 < (l0_4.length : Int) := of_decide_eq_true (by first|(with_reducible assumption) | assumption)
     obtain ⟨ad167, A167_4, c167_4, e167, hx167_0, hx167_1, hx167_2, hx167_3, hx167_4, hl167_4, hi167_4⟩ := at_T24 HR0_4.out x4_1 p167 q167
     cases e167
     replace hx167_0 := (HB.out.cell (World.block_lt_of_cell? w _ hx167_0)).trans hx167_0
     replace hx167_1 := (HB.out.cell (World.block_lt_of_cell? w _ hx167_1)).trans hx167_1
     replace hx167_2 := (HB.out.cell (World.block_lt_of_cell? w _ hx167_2)).trans hx167_2
     replace hx167_3 := (HB.out.cell (World.block_lt_of_cell? w _ hx167_3)).trans hx167_3
     replace hx167_4 := (HB.out.cell (World.block_lt_of_cell? w _ hx167_4)).trans hx167_4
     have HR167_4 := Aside0.mk hi167_4
     have HC167_4 := Aside0.mk hl167_4
     clear hi167_4 hl167_4
     replace p167 := eq_true p167
     replace q167 := eq_true q167
     go_wp2_with (first|((with_reducible refine gate_callee (f := 11) rfl ?_); refine goesL_ (some 18) rfl rfl Tryz.func11 (by kernel_rfl) rfl #[.agg #[.int .i64 ((rd_T24 l0_4 x4_1).f0), .string ((rd_T24 l0_4 x4_1).f1), .int .i64 ((rd_T24 l0_4 x4_1).f2), .int .i64 ((rd_T24 l0_4 x4_1).f3), .slice A167_4 ((rd_T24 l0_4 x4_1).f4).length c167_4]] rfl (by (try simp only [List.map_toArray, List.map_cons, List.map_nil]); first|done|rfl|(simp only [List.length_drop, List.length_take]; rfl)) ?_; (with_reducible refine (ih k1 (by have := HK1.out; omega) ((rd_T24 l0_4 x4_1).f0) ((rd_T24 l0_4 x4_1).f1) ((rd_T24 l0_4 x4_1).f2) ((rd_T24 l0_4 x4_1).f3) _ _ ((rd_T24 l0_4 x4_1).f4) t168 _ ?side1 ?side2 A5.out).mono ?_); (case side1 => repeat (first|exact (Kd.C_below HR167_4.out HB.out)|(with_reducible refine Kd.C_alloc ?_ _)|(with_reducible refine Kd.C_drewN ?_ _)|(with_reducible refine Kd.C_drew ?_))); (case side2 => exact HC167_4.out); rintro e w7 ⟨rfl, hb⟩; refine ⟨_, rfl, ?_⟩; have n0_ := Aside0.mk (blk_below (g := gb166) (o := .cells #[.int .i64 a0_0, .string a0_1, .int .i64 a0_2, .int .i64 a0_3, .slice (some ad167) l0_4.length c0_4] 24 (0, 0)) (by (with_reducible repeat (first|refine blk_drewN ?_ _|refine blk_drew ?_|refine blk_alloc ?_ _)); exact BK166.out) hb); have n1_ := Aside0.mk (below_step (by repeat (first|(with_reducible first|exact HB.out|apply below_alloc|apply pw_below_drewN|apply below_drew1|refine below_set ?_ GE166.out)|exact HB.out)) hb); clear BK166; clear HB; have BK166 := n0_; have HB := n1_; clear n0_ n1_; (try clear hb); (try clear hb2); (try clear hk); (try clear hi)))
     go_roundg k1
     case measure => have := HK1.out; omega
     case rel => exact ⟨(wrap64 (x3_1 + t168)), (wrap64 (x4_1 + 1)), (by first|rfl|(simp; done)|(simp [*]; done)), (by first|rfl|(simp; done)|(simp [*]; done)), H', ⟨by have := HK1.out; omega⟩, ⟨by (with_reducible repeat (first|refine blk_drewN ?_ _|refine blk_drew ?_|refine blk_alloc ?_ _)); exact BK166.out⟩, ⟨by repeat (first|(with_reducible first|exact HB.out|apply below_alloc|apply pw_below_drewN|apply below_drew1|refine below_set ?_ GE166.out)|exact HB.out)⟩⟩
    ·rw [if_neg c4] at H
     exact absurd H (by simp)
   ·rw [if_neg c3] at H
    have c3b0 : decide (x4_1 < (l0_4.length : Int)) = false := decide_eq_false c3
    clear c3
    obtain rfl := Option.some.inj H
    have hcz8_0 : wr.cell? ⟨gb166, 0, none⟩ = some (.int .i64 a0_0) := (blk_cell BK166.out 0).trans rfl
    have hcz8_1 : wr.cell? ⟨gb166, 1, none⟩ = some (.string a0_1) := (blk_cell BK166.out 1).trans rfl
    have hcz8_2 : wr.cell? ⟨gb166, 2, none⟩ = some (.int .i64 a0_2) := (blk_cell BK166.out 2).trans rfl
    have hcz8_3 : wr.cell? ⟨gb166, 3, none⟩ = some (.int .i64 a0_3) := (blk_cell BK166.out 3).trans rfl
    have hcz8_4 : wr.cell? ⟨gb166, 4, none⟩ = some (.slice A0_4 l0_4.length c0_4) := (blk_cell BK166.out 4).trans rfl
    have hfz8_0 := blk_frozen BK166.out 0
    have hfz8_1 := blk_frozen BK166.out 1
    have hfz8_2 := blk_frozen BK166.out 2
    have hfz8_3 := blk_frozen BK166.out 3
    have hfz8_4 := blk_frozen BK166.out 4
    go_wp2
    go_ret
    exact ⟨by first|rfl|(simp [errW_none, errW_some] <;> rfl)|(simp [*, errW_none, errW_some] <;> rfl), by repeat (first|(with_reducible first|exact HB.out|apply below_alloc|apply pw_below_drewN|apply below_drew1|refine below_set ?_ GE166.out)|exact HB.out)⟩

end Go.Proofs.YthdkjfhpbigdpaaGreatDoor.Q

namespace Go.Proofs.YthdkjfhpbigdpaaGreatDoor.Q
open Go.RowKit Go.Proofs.YthdkjfhpbigdpaaGreatDoorW.PrintWords Go.Proofs.YthdkjfhpbigdpaaGreatDoorW.PrintLast Go.Proofs.YthdkjfhpbigdpaaGreatDoorW.PrintMore
attribute [local go_sem] max2_int min2_int max_two min_two max_three min_three max_four min_four
set_option linter.unusedVariables false
set_option linter.unusedSimpArgs false

mutual
def gossamerref02_Depth.l0 : Nat → Int → Int → Int → ByteArray → Int → Int → List (S24) → Option (Int)
 | 0, _, _, _, _, _, _, _ => none
 | k + 1, x3, x4, x164000, x164001, x164002, x164003, x164004 => if x4 < (x164004.length : Int) then (if 0 ≤ x4 then ((gossamerref02_Depth.f k ((rd_T24 x164004 x4).f0) ((rd_T24 x164004 x4).f1) ((rd_T24 x164004 x4).f2) ((rd_T24 x164004 x4).f3) ((rd_T24 x164004 x4).f4)).bind fun t165 => (gossamerref02_Depth.l0 k (mx x3 t165) (wrap64 (x4 + 1)) x164000 x164001 x164002 x164003 x164004)) else (none)) else (some (wrap64 (x3 + 1)))
def gossamerref02_Depth.f : Nat → Int → ByteArray → Int → Int → List (S24) → Option (Int)
 | 0, _, _, _, _, _ => none
 | k + 1, a0_0, a0_1, a0_2, a0_3, l0_4 => gossamerref02_Depth.l0 k 0 0 a0_0 a0_1 a0_2 a0_3 l0_4
end
theorem gossamerref02_Depth.mono_l : ∀ k, (∀ y0 y1 y2 y3 y4, LeO (gossamerref02_Depth.f k y0 y1 y2 y3 y4) (gossamerref02_Depth.f (k + 1) y0 y1 y2 y3 y4)) ∧ (∀ y0 y1 y2 y3 y4 y5 y6, LeO (gossamerref02_Depth.l0 k y0 y1 y2 y3 y4 y5 y6) (gossamerref02_Depth.l0 (k + 1) y0 y1 y2 y3 y4 y5 y6))
 | 0 => ⟨fun _ _ _ _ _ r h => by simp [gossamerref02_Depth.f] at h, fun _ _ _ _ _ _ _ r h => by simp [gossamerref02_Depth.l0] at h⟩
 | k + 1 => by
  obtain ⟨ih0, ih1⟩ := gossamerref02_Depth.mono_l k
  refine ⟨?_, ?_⟩
  ·intro y0 y1 y2 y3 y4
   unfold gossamerref02_Depth.f
   repeat' first
  |(with_reducible exact ih0 _ _ _ _ _)
  |(with_reducible exact ih1 _ _ _ _ _ _ _)
  |(with_reducible exact LeO.refl _)
  |(with_reducible exact LeO.none _)
  |(with_reducible refine LeO.ite ?_ ?_)
  |(with_reducible refine LeO.bind ?_ (fun _ => ?_))
  |exact ih0 _ _ _ _ _
  |exact ih1 _ _ _ _ _ _ _
  |exact LeO.none _
  |refine LeO.ite ?_ ?_
  |refine LeO.bind ?_ (fun _ => ?_)
  ·intro y0 y1 y2 y3 y4 y5 y6
   unfold gossamerref02_Depth.l0
   repeat' first
  |(with_reducible exact ih0 _ _ _ _ _)
  |(with_reducible exact ih1 _ _ _ _ _ _ _)
  |(with_reducible exact LeO.refl _)
  |(with_reducible exact LeO.none _)
  |(with_reducible refine LeO.ite ?_ ?_)
  |(with_reducible refine LeO.bind ?_ (fun _ => ?_))
  |exact ih0 _ _ _ _ _
  |exact ih1 _ _ _ _ _ _ _
  |exact LeO.none _
  |refine LeO.ite ?_ ?_
  |refine LeO.bind ?_ (fun _ => ?_)
theorem gossamerref02_Depth.mono : ∀ a0 a1 a2 a3 a4 k, LeO (gossamerref02_Depth.f k a0 a1 a2 a3 a4) (gossamerref02_Depth.f (k + 1) a0 a1 a2 a3 a4) := by
 intro a0 a1 a2 a3 a4 k
 obtain ⟨ih0, ih1⟩ := gossamerref02_Depth.mono_l k
 exact ih0 a0 a1 a2 a3 a4
set_option maxHeartbeats 8000000 in
set_option maxRecDepth 100000 in
theorem gossamerref02_Depth.calls (k : Nat) : ∀ (a0_0 : Int) (a0_1 : ByteArray) (a0_2 : Int) (a0_3 : Int) (A0_4 : Option Addr) (c0_4 : Nat) (l0_4 : List (S24)) (r : Int) (w : World) (hr0_4 : Kd.C k24 w A0_4 l0_4.length l0_4) (hc0_4 : l0_4.length ≤ c0_4) (h : gossamerref02_Depth.f k a0_0 a0_1 a0_2 a0_3 l0_4 = some r),
  Calls Tryz.prog 9 #[.agg #[.int .i64 a0_0, .string a0_1, .int .i64 a0_2, .int .i64 a0_3, .slice A0_4 l0_4.length c0_4]] w fun e w' => e = .returned (.int .i64 r) ∧ Below w.heap.size w w' := by
 induction k using Nat.strongRecOn with
 | _ k ih =>
 intro a0_0 a0_1 a0_2 a0_3 A0_4 c0_4 l0_4 r w hr0_4 hc0_4 h
 cases k with
 | zero => exact absurd h (by simp [gossamerref02_Depth.f])
 | succ k =>
 simp only [gossamerref02_Depth.f] at h
 have hu24 := Tryz.underlying24
 have HR0_4 := Aside0.mk hr0_4
 have HC0_4 := Aside0.mk hc0_4
 clear hr0_4 hc0_4
 have HB := Aside0.mk (Below.refl w.heap.size w)
 have H : (gossamerref02_Depth.l0 k 0 0 a0_0 a0_1 a0_2 a0_3 l0_4) = some r := h
 clear h
 have H' := Aside0.mk H
 clear H
 go_enter Tryz.func9, Tryz.ntmps9
 go_wp2_with (first|((with_reducible refine gate_dst (N := 1) rfl ?_); refine box_event ?hg (N := 1) ?hd (cs := #[.int .i64 a0_0, .string a0_1, .int .i64 a0_2, .int .i64 a0_3, .slice A0_4 l0_4.length c0_4]) (t := 24) ?hr ?_; (case hd => rfl); (case hg => rfl); (case hr => first|(go_simp; done)|(go_simp; rfl)); intro gb163 hg w2 hbox hb; have n0_ := Aside0.mk (below_step (by repeat (first|(with_reducible first|exact HB.out|apply below_alloc|apply pw_below_drewN|apply below_drew1)|exact HB.out)) hb); have n1_ := Aside0.mk (hbox); have n2_ := Aside0.mk ((by rw [hg]; exact (below_size (by repeat (first|(with_reducible first|exact HB.out|apply below_alloc|apply pw_below_drewN|apply below_drew1)|exact HB.out))) : w.heap.size ≤ gb163)); have n3_ := Aside0.mk ((by rw [hg]; exact (below_size (by repeat (first|(with_reducible first|exact HB.out|apply below_alloc|apply pw_below_drewN|apply below_drew1)|exact HB.out))) : w.heap.size ≤ gb163)); clear HB; have HB := n0_; have BK163 := n1_; have GW163 := n2_; have GE163 := n3_; clear n0_ n1_ n2_ n3_; clear hb hbox hg))
 go_loopg [3, 4] k (fun kq v3 v4 w' => ∃ (x3_1 : Int) (x4_1 : Int), v3 = .int .i64 x3_1 ∧ v4 = .int .i64 x4_1 ∧ Aside0 (gossamerref02_Depth.l0 kq x3_1 x4_1 a0_0 a0_1 a0_2 a0_3 l0_4 = some r) ∧ Aside0 (kq ≤ k) ∧ Aside0 (w'.heap[gb163]? = some (.cells #[.int .i64 a0_0, .string a0_1, .int .i64 a0_2, .int .i64 a0_3, (.slice A0_4 l0_4.length c0_4)] 24 (0, 0))) ∧ Aside0 (Below w.heap.size w w'))
 case atStart => exact ⟨(0), (0), (by first|rfl|(simp; done)|(simp [*]; done)), (by first|rfl|(simp; done)|(simp [*]; done)), H', ⟨Nat.le_refl _⟩, ⟨by (with_reducible repeat (first|refine blk_drewN ?_ _|refine blk_drew ?_|refine blk_alloc ?_ _)); exact BK163.out⟩, ⟨by repeat (first|(with_reducible first|exact HB.out|apply below_alloc|apply pw_below_drewN|apply below_drew1|refine below_set ?_ GE163.out)|exact HB.out)⟩⟩
 case round =>
  clear H'
  try clear p2
  obtain ⟨x3_1, x4_1, rfl, rfl, HA, HK1, BK163, HB⟩ := hrel
  cases gk with
  | zero => exact absurd HA.out (by simp [gossamerref02_Depth.l0])
  | succ k1 =>
   have H := HA.out
   clear HA
   simp only [gossamerref02_Depth.l0] at H
   by_cases c3 : x4_1 < (l0_4.length : Int)
   ·rw [if_pos c3] at H
    have c3b0 : decide (x4_1 < (l0_4.length : Int)) = true := decide_eq_true c3
    clear c3
    by_cases c4 : 0 ≤ x4_1
    ·rw [if_pos c4] at H
     have c4b0 : decide (0 ≤ x4_1) = true := decide_eq_true c4
     clear c4
     replace H := Option.bind_eq_some_iff.mp H
     obtain ⟨t165, A50, H⟩ := H
     replace H : (gossamerref02_Depth.l0 k1 (mx x3_1 t165) (wrap64 (x4_1 + 1)) a0_0 a0_1 a0_2 a0_3 l0_4) = some r := H
     have A5 := Aside0.mk A50
     clear A50
     obtain ⟨ji6, hji6⟩ : ∃ j_ : Int, (mx x3_1 t165) = j_ := ⟨_, rfl⟩
     replace H : (gossamerref02_Depth.l0 k1 ji6 (wrap64 (x4_1 + 1)) a0_0 a0_1 a0_2 a0_3 l0_4) = some r := by first | (rw [hji6] at H; exact H)|(simp only [hji6] at H ⊢; exact H)
     (try rw [hji6] at A5)
     have hji6_ : (if x3_1 < t165 then t165 else x3_1) = ji6 := hji6
     have H' := Aside0.mk H
     clear H
     have hcz7_0 : wr.cell? ⟨gb163, 0, none⟩ = some (.int .i64 a0_0) := (blk_cell BK163.out 0).trans rfl
     have hcz7_1 : wr.cell? ⟨gb163, 1, none⟩ = some (.string a0_1) := (blk_cell BK163.out 1).trans rfl
     have hcz7_2 : wr.cell? ⟨gb163, 2, none⟩ = some (.int .i64 a0_2) := (blk_cell BK163.out 2).trans rfl
     have hcz7_3 : wr.cell? ⟨gb163, 3, none⟩ = some (.int .i64 a0_3) := (blk_cell BK163.out 3).trans rfl
     have hcz7_4 : wr.cell? ⟨gb163, 4, none⟩ = some (.slice A0_4 l0_4.length c0_4) := (blk_cell BK163.out 4).trans rfl
     have hfz7_0 := blk_frozen BK163.out 0
     have hfz7_1 := blk_frozen BK163.out 1
     have hfz7_2 := blk_frozen BK163.out 2
     have hfz7_3 := blk_frozen BK163.out 3
     have hfz7_4 := blk_frozen BK163.out 4
     have p164 : 0 ≤ (x4_1 : Int) := of_decide_eq_true (by first|(with_reducible assumption) | assumption)
     have q164 : x4_1 < (l0_4.length : Int) := of_decide_eq_true (by first|(with_reducible assumption) | assumption)
     obtain ⟨ad164, A164_4, c164_4, e164, hx164_0, hx164_1, hx164_2, hx164_3, hx164_4, hl164_4, hi164_4⟩ := at_T24 HR0_4.out x4_1 p164 q164
     cases e164
     replace hx164_0 := (HB.out.cell (World.block_lt_of_cell? w _ hx164_0)).trans hx164_0
     replace hx164_1 := (HB.out.cell (World.block_lt_of_cell? w _ hx164_1)).trans hx164_1
     replace hx164_2 := (HB.out.cell (World.block_lt_of_cell? w _ hx164_2)).trans hx164_2
     replace hx164_3 := (HB.out.cell (World.block_lt_of_cell? w _ hx164_3)).trans hx164_3
     replace hx164_4 := (HB.out.cell (World.block_lt_of_cell? w _ hx164_4)).trans hx164_4
     have HR164_4 := Aside0.mk hi164_4
     have HC164_4 := Aside0.mk hl164_4
     clear hi164_4 hl164_4
     replace p164 := eq_true p164
     replace q164 := eq_true q164
     go_wp2_with (first|((with_reducible refine gate_callee (f := 9) rfl ?_); refine goesL_ (some 18) rfl rfl Tryz.func9 (by kernel_rfl) rfl #[.agg #[.int .i64 ((rd_T24 l0_4 x4_1).f0), .string ((rd_T24 l0_4 x4_1).f1), .int .i64 ((rd_T24 l0_4 x4_1).f2), .int .i64 ((rd_T24 l0_4 x4_1).f3), .slice A164_4 ((rd_T24 l0_4 x4_1).f4).length c164_4]] rfl (by (try simp only [List.map_toArray, List.map_cons, List.map_nil]); first|done|rfl|(simp only [List.length_drop, List.length_take]; rfl)) ?_; (with_reducible refine (ih k1 (by have := HK1.out; omega) ((rd_T24 l0_4 x4_1).f0) ((rd_T24 l0_4 x4_1).f1) ((rd_T24 l0_4 x4_1).f2) ((rd_T24 l0_4 x4_1).f3) _ _ ((rd_T24 l0_4 x4_1).f4) t165 _ ?side1 ?side2 A5.out).mono ?_); (case side1 => repeat (first|exact (Kd.C_below HR164_4.out HB.out)|(with_reducible refine Kd.C_alloc ?_ _)|(with_reducible refine Kd.C_drewN ?_ _)|(with_reducible refine Kd.C_drew ?_))); (case side2 => exact HC164_4.out); rintro e w8 ⟨rfl, hb⟩; refine ⟨_, rfl, ?_⟩; have n0_ := Aside0.mk (blk_below (g := gb163) (o := .cells #[.int .i64 a0_0, .string a0_1, .int .i64 a0_2, .int .i64 a0_3, .slice (some ad164) l0_4.length c0_4] 24 (0, 0)) (by (with_reducible repeat (first|refine blk_drewN ?_ _|refine blk_drew ?_|refine blk_alloc ?_ _)); exact BK163.out) hb); have n1_ := Aside0.mk (below_step (by repeat (first|(with_reducible first|exact HB.out|apply below_alloc|apply pw_below_drewN|apply below_drew1|refine below_set ?_ GE163.out)|exact HB.out)) hb); clear BK163; clear HB; have BK163 := n0_; have HB := n1_; clear n0_ n1_; (try clear hb); (try clear hb2); (try clear hk); (try clear hi)))
     go_roundg k1
     case measure => have := HK1.out; omega
     case rel => exact ⟨(ji6), (wrap64 (x4_1 + 1)), (by first|rfl|(simp; done)|(simp only [← hji6] <;> (first|rfl | simp))|(simp [*]; done)), (by first|rfl|(simp; done)|(simp [*]; done)), H', ⟨by have := HK1.out; omega⟩, ⟨by (with_reducible repeat (first|refine blk_drewN ?_ _|refine blk_drew ?_|refine blk_alloc ?_ _)); exact BK163.out⟩, ⟨by repeat (first|(with_reducible first|exact HB.out|apply below_alloc|apply pw_below_drewN|apply below_drew1|refine below_set ?_ GE163.out)|exact HB.out)⟩⟩
    ·rw [if_neg c4] at H
     exact absurd H (by simp)
   ·rw [if_neg c3] at H
    have c3b0 : decide (x4_1 < (l0_4.length : Int)) = false := decide_eq_false c3
    clear c3
    obtain rfl := Option.some.inj H
    have hcz9_0 : wr.cell? ⟨gb163, 0, none⟩ = some (.int .i64 a0_0) := (blk_cell BK163.out 0).trans rfl
    have hcz9_1 : wr.cell? ⟨gb163, 1, none⟩ = some (.string a0_1) := (blk_cell BK163.out 1).trans rfl
    have hcz9_2 : wr.cell? ⟨gb163, 2, none⟩ = some (.int .i64 a0_2) := (blk_cell BK163.out 2).trans rfl
    have hcz9_3 : wr.cell? ⟨gb163, 3, none⟩ = some (.int .i64 a0_3) := (blk_cell BK163.out 3).trans rfl
    have hcz9_4 : wr.cell? ⟨gb163, 4, none⟩ = some (.slice A0_4 l0_4.length c0_4) := (blk_cell BK163.out 4).trans rfl
    have hfz9_0 := blk_frozen BK163.out 0
    have hfz9_1 := blk_frozen BK163.out 1
    have hfz9_2 := blk_frozen BK163.out 2
    have hfz9_3 := blk_frozen BK163.out 3
    have hfz9_4 := blk_frozen BK163.out 4
    go_wp2
    go_ret
    exact ⟨by first|rfl|(simp [errW_none, errW_some] <;> rfl)|(simp [*, errW_none, errW_some] <;> rfl), by repeat (first|(with_reducible first|exact HB.out|apply below_alloc|apply pw_below_drewN|apply below_drew1|refine below_set ?_ GE163.out)|exact HB.out)⟩

end Go.Proofs.YthdkjfhpbigdpaaGreatDoor.Q

namespace Go.Proofs.YthdkjfhpbigdpaaGreatDoor.Q
open Go.RowKit Go.Proofs.YthdkjfhpbigdpaaGreatDoorW.PrintWords Go.Proofs.YthdkjfhpbigdpaaGreatDoorW.PrintLast Go.Proofs.YthdkjfhpbigdpaaGreatDoorW.PrintMore
attribute [local go_sem] max2_int min2_int max_two min_two max_three min_three max_four min_four
set_option linter.unusedVariables false
set_option linter.unusedSimpArgs false

mutual
def gossamerref02_Bare.l0 : Nat → Int → Int → ByteArray → Int → Int → List (S24) → Int → ByteArray → Int → Int → List (S24) → Option (Int × ByteArray × Int × Int × (List (S24)))
 | 0, _, _, _, _, _, _, _, _, _, _, _ => none
 | k + 1, x4, x175000, x175001, x175002, x175003, x175004, x177000, x177001, x177002, x177003, x177004 => if x4 < (x175004.length : Int) then (if 0 ≤ x4 then ((gossamerref02_Bare.f k ((rd_T24 x175004 x4).f0) ((rd_T24 x175004 x4).f1) ((rd_T24 x175004 x4).f2) ((rd_T24 x175004 x4).f3) ((rd_T24 x175004 x4).f4)).bind fun bt178 => (if x177004.length < 2199023255552 then (gossamerref02_Bare.l0 k (wrap64 (x4 + 1)) x175000 x175001 x175002 x175003 x175004 x177000 x177001 x177002 x177003 (x177004 ++ [(⟨bt178.1, bt178.2.1, bt178.2.2.1, bt178.2.2.2.1, bt178.2.2.2.2⟩ : S24)])) else (none))) else (none)) else (some (x177000, x177001, x177002, x177003, x177004))
def gossamerref02_Bare.f : Nat → Int → ByteArray → Int → Int → List (S24) → Option (Int × ByteArray × Int × Int × (List (S24)))
 | 0, _, _, _, _, _ => none
 | k + 1, a0_0, a0_1, a0_2, a0_3, l0_4 => gossamerref02_Bare.l0 k 0 a0_0 a0_1 a0_2 a0_3 l0_4 a0_0 a0_1 a0_2 0 ([] : List (S24))
end
theorem gossamerref02_Bare.mono_l : ∀ k, (∀ y0 y1 y2 y3 y4, LeO (gossamerref02_Bare.f k y0 y1 y2 y3 y4) (gossamerref02_Bare.f (k + 1) y0 y1 y2 y3 y4)) ∧ (∀ y0 y1 y2 y3 y4 y5 y6 y7 y8 y9 y10, LeO (gossamerref02_Bare.l0 k y0 y1 y2 y3 y4 y5 y6 y7 y8 y9 y10) (gossamerref02_Bare.l0 (k + 1) y0 y1 y2 y3 y4 y5 y6 y7 y8 y9 y10))
 | 0 => ⟨fun _ _ _ _ _ r h => by simp [gossamerref02_Bare.f] at h, fun _ _ _ _ _ _ _ _ _ _ _ r h => by simp [gossamerref02_Bare.l0] at h⟩
 | k + 1 => by
  obtain ⟨ih0, ih1⟩ := gossamerref02_Bare.mono_l k
  refine ⟨?_, ?_⟩
  ·intro y0 y1 y2 y3 y4
   unfold gossamerref02_Bare.f
   repeat' first
  |(with_reducible exact ih0 _ _ _ _ _)
  |(with_reducible exact ih1 _ _ _ _ _ _ _ _ _ _ _)
  |(with_reducible exact LeO.refl _)
  |(with_reducible exact LeO.none _)
  |(with_reducible refine LeO.ite ?_ ?_)
  |(with_reducible refine LeO.bind ?_ (fun _ => ?_))
  |exact ih0 _ _ _ _ _
  |exact ih1 _ _ _ _ _ _ _ _ _ _ _
  |exact LeO.none _
  |refine LeO.ite ?_ ?_
  |refine LeO.bind ?_ (fun _ => ?_)
  ·intro y0 y1 y2 y3 y4 y5 y6 y7 y8 y9 y10
   unfold gossamerref02_Bare.l0
   repeat' first
  |(with_reducible exact ih0 _ _ _ _ _)
  |(with_reducible exact ih1 _ _ _ _ _ _ _ _ _ _ _)
  |(with_reducible exact LeO.refl _)
  |(with_reducible exact LeO.none _)
  |(with_reducible refine LeO.ite ?_ ?_)
  |(with_reducible refine LeO.bind ?_ (fun _ => ?_))
  |exact ih0 _ _ _ _ _
  |exact ih1 _ _ _ _ _ _ _ _ _ _ _
  |exact LeO.none _
  |refine LeO.ite ?_ ?_
  |refine LeO.bind ?_ (fun _ => ?_)
theorem gossamerref02_Bare.mono : ∀ a0 a1 a2 a3 a4 k, LeO (gossamerref02_Bare.f k a0 a1 a2 a3 a4) (gossamerref02_Bare.f (k + 1) a0 a1 a2 a3 a4) := by
 intro a0 a1 a2 a3 a4 k
 obtain ⟨ih0, ih1⟩ := gossamerref02_Bare.mono_l k
 exact ih0 a0 a1 a2 a3 a4
def gossamerref02_Bare.T5 : Bool × List (List Nat × List Nat) := (true, [([], []), ([0], [0]), ([], []), ([2], [2]), ([], []), ([3, 4], [3, 4]), ([5], [5]), ([6], [6]), ([7], [7]), ([1, 8, 7], [1, 8]), ([0, 1, 2, 3, 4, 5, 6, 7, 8, 9], []), ([10, 9, 9, 0, 1, 2, 3, 4, 5, 6, 7, 8, 9], [9, 10])])
def gossamerref02_Bare.B5 : List Nat := [0, 1, 0, 4, 0, 28, 60, 124, 252, 511, 1023, 2047]
theorem gossamerref02_Bare.tab5 : rtab .any (opsOf Tryz.f14 5) = gossamerref02_Bare.T5 := by kernel_rfl
theorem gossamerref02_Bare.bits5 : waitsOk gossamerref02_Bare.T5.2 gossamerref02_Bare.B5 = true := by kernel_rfl
set_option maxHeartbeats 8000000 in
set_option maxRecDepth 100000 in
theorem gossamerref02_Bare.calls (k : Nat) : ∀ (a0_0 : Int) (a0_1 : ByteArray) (a0_2 : Int) (a0_3 : Int) (A0_4 : Option Addr) (c0_4 : Nat) (l0_4 : List (S24)) (r1 : Int) (r2 : ByteArray) (r3 : Int) (r4 : Int) (r5 : List (S24)) (w : World) (hr0_4 : Kd.C k24 w A0_4 l0_4.length l0_4) (hc0_4 : l0_4.length ≤ c0_4) (h : gossamerref02_Bare.f k a0_0 a0_1 a0_2 a0_3 l0_4 = some (r1, r2, r3, r4, r5)),
  Calls Tryz.prog 14 #[.agg #[.int .i64 a0_0, .string a0_1, .int .i64 a0_2, .int .i64 a0_3, .slice A0_4 l0_4.length c0_4]] w fun e w' => ∃ v4_ : Value, e = .returned (.agg #[.int .i64 r1, .string r2, .int .i64 r3, .int .i64 r4, v4_]) ∧ Kd.R k24 24 w' w.heap.size (fun _ => True) v4_ r5 ∧ Below w.heap.size w w' := by
 induction k using Nat.strongRecOn with
 | _ k ih =>
 intro a0_0 a0_1 a0_2 a0_3 A0_4 c0_4 l0_4 r1 r2 r3 r4 r5 w hr0_4 hc0_4 h
 cases k with
 | zero => exact absurd h (by simp [gossamerref02_Bare.f])
 | succ k =>
 simp only [gossamerref02_Bare.f] at h
 have hu24 := Tryz.underlying24
 have HR0_4 := Aside0.mk hr0_4
 have HC0_4 := Aside0.mk hc0_4
 clear hr0_4 hc0_4
 have HB := Aside0.mk (Below.refl w.heap.size w)
 have H : (gossamerref02_Bare.l0 k 0 a0_0 a0_1 a0_2 a0_3 l0_4 a0_0 a0_1 a0_2 0 ([] : List (S24))) = some (r1, r2, r3, r4, r5) := h
 clear h
 have H' := Aside0.mk H
 clear H
 go_enter Tryz.func14, Tryz.ntmps14
 go_wp2_with (first|((with_reducible refine gate_dst (N := 1) rfl ?_); refine box_event ?hg (N := 1) ?hd (cs := #[.int .i64 a0_0, .string a0_1, .int .i64 a0_2, .int .i64 a0_3, .slice A0_4 l0_4.length c0_4]) (t := 24) ?hr ?_; (case hd => rfl); (case hg => rfl); (case hr => first|(go_simp; done)|(go_simp; rfl)); intro gb174 hg w2 hbox hb; have n0_ := Aside0.mk (below_step (by repeat (first|(with_reducible first|exact HB.out|apply below_alloc|apply pw_below_drewN|apply below_drew1)|exact HB.out)) hb); have n1_ := Aside0.mk (hbox); have n2_ := Aside0.mk ((by rw [hg]; exact (below_size (by repeat (first|(with_reducible first|exact HB.out|apply below_alloc|apply pw_below_drewN|apply below_drew1)|exact HB.out))) : w.heap.size ≤ gb174)); have n3_ := Aside0.mk ((by rw [hg]; exact (below_size (by repeat (first|(with_reducible first|exact HB.out|apply below_alloc|apply pw_below_drewN|apply below_drew1)|exact HB.out))) : w.heap.size ≤ gb174)); clear HB; have HB := n0_; have BK174 := n1_; have GW174 := n2_; have GE174 := n3_; clear n0_ n1_ n2_ n3_; clear hb hbox hg) | ((with_reducible refine gate_dst (N := 2) rfl ?_); refine box_event ?hg (N := 2) ?hd (cs := #[.int .i64 0, .string (⟨#[]⟩ : ByteArray), .int .i64 0, .int .i64 0, .slice none 0 0]) (t := 24) ?hr ?_; (case hd => rfl); (case hg => rfl); (case hr => first|(go_simp; done)|(go_simp; rfl)); intro gb175 hg w3 hbox hb; have n0_ := Aside0.mk (blk_below (g := gb174) (o := .cells #[.int .i64 a0_0, .string a0_1, .int .i64 a0_2, .int .i64 a0_3, .slice A0_4 l0_4.length c0_4] 24 (0, 0)) (by (with_reducible repeat (first|refine blk_drewN ?_ _|refine blk_drew ?_|refine blk_alloc ?_ _)); exact BK174.out) hb); have n1_ := Aside0.mk (below_step (by repeat (first|(with_reducible first|exact HB.out|apply below_alloc|apply pw_below_drewN|apply below_drew1|refine below_set ?_ GE174.out)|exact HB.out)) hb); have n2_ := Aside0.mk (hbox); have n3_ := Aside0.mk ((by rw [hg]; exact (below_size (by repeat (first|(with_reducible first|exact HB.out|apply below_alloc|apply pw_below_drewN|apply below_drew1|refine below_set ?_ GE174.out)|exact HB.out))) : w.heap.size ≤ gb175)); have n4_ := Aside0.mk ((by rw [hg]; exact (below_size (by repeat (first|(with_reducible first|exact HB.out|apply below_alloc|apply pw_below_drewN|apply below_drew1|refine below_set ?_ GE174.out)|exact HB.out))) : w.heap.size ≤ gb175)); have n5_ := Aside0.mk ((by rw [hg]; exact Nat.ne_of_lt (blk_lt (g := gb174) (o := .cells #[.int .i64 a0_0, .string a0_1, .int .i64 a0_2, .int .i64 a0_3, .slice A0_4 l0_4.length c0_4] 24 (0, 0)) (by (with_reducible repeat (first|refine blk_drewN ?_ _|refine blk_drew ?_|refine blk_alloc ?_ _)); exact BK174.out)) : gb174 ≠ gb175)); have n6_ := Aside0.mk ((by rw [hg]; exact Nat.ne_of_gt (blk_lt (g := gb174) (o := .cells #[.int .i64 a0_0, .string a0_1, .int .i64 a0_2, .int .i64 a0_3, .slice A0_4 l0_4.length c0_4] 24 (0, 0)) (by (with_reducible repeat (first|refine blk_drewN ?_ _|refine blk_drew ?_|refine blk_alloc ?_ _)); exact BK174.out)) : gb175 ≠ gb174)); clear BK174; clear HB; have BK174 := n0_; have HB := n1_; have BK175 := n2_; have GW175 := n3_; have GE175 := n4_; have NB174_175 := n5_; have NB175_174 := n6_; clear n0_ n1_ n2_ n3_ n4_ n5_ n6_; clear hb hbox hg; have hnb4 := NB174_175.out; have hnc4 := NB175_174.out; have hcz5_0 : w3.cell? ⟨gb174, 0, none⟩ = some (.int .i64 a0_0) := (blk_cell BK174.out 0).trans rfl; have hcz5_1 : w3.cell? ⟨gb174, 1, none⟩ = some (.string a0_1) := (blk_cell BK174.out 1).trans rfl; have hcz5_2 : w3.cell? ⟨gb174, 2, none⟩ = some (.int .i64 a0_2) := (blk_cell BK174.out 2).trans rfl; have hcz5_3 : w3.cell? ⟨gb174, 3, none⟩ = some (.int .i64 a0_3) := (blk_cell BK174.out 3).trans rfl; have hcz5_4 : w3.cell? ⟨gb174, 4, none⟩ = some (.slice A0_4 l0_4.length c0_4) := (blk_cell BK174.out 4).trans rfl; have hfz5_0 := blk_frozen BK174.out 0; have hfz5_1 := blk_frozen BK174.out 1; have hfz5_2 := blk_frozen BK174.out 2; have hfz5_3 := blk_frozen BK174.out 3; have hfz5_4 := blk_frozen BK174.out 4) | ((with_reducible refine gate_dst (N := 3) rfl ?_); refine box_event ?hg (N := 3) ?hd (cs := #[.int .i64 0, .string (⟨#[]⟩ : ByteArray), .int .i64 0, .int .i64 0, .slice none 0 0]) (t := 24) ?hr ?_; (case hd => rfl); (case hg => rfl); (case hr => first|(go_simp; done)|(go_simp; rfl)); intro gb176 hg w6 hbox hb; have n0_ := Aside0.mk (blk_below (g := gb174) (o := .cells #[.int .i64 a0_0, .string a0_1, .int .i64 a0_2, .int .i64 a0_3, .slice A0_4 l0_4.length c0_4] 24 (0, 0)) (by (with_reducible repeat (first|refine blk_drewN ?_ _|refine blk_drew ?_|refine blk_alloc ?_ _)); exact BK174.out) hb); have n1_ := Aside0.mk (blk_below (g := gb175) (o := .cells #[.int .i64 0, .string (⟨#[]⟩ : ByteArray), .int .i64 0, .int .i64 0, .slice none 0 0] 24 (0, 0)) (by (with_reducible repeat (first|refine blk_drewN ?_ _|refine blk_drew ?_|refine blk_alloc ?_ _)); exact BK175.out) hb); have n2_ := Aside0.mk (below_step (by repeat (first|(with_reducible first|exact HB.out|apply below_alloc|apply pw_below_drewN|apply below_drew1|refine below_set ?_ GE174.out|refine below_set ?_ GE175.out)|exact HB.out)) hb); have n3_ := Aside0.mk (hbox); have n4_ := Aside0.mk ((by rw [hg]; exact (below_size (by repeat (first|(with_reducible first|exact HB.out|apply below_alloc|apply pw_below_drewN|apply below_drew1|refine below_set ?_ GE174.out|refine below_set ?_ GE175.out)|exact HB.out))) : w.heap.size ≤ gb176)); have n5_ := Aside0.mk ((by rw [hg]; exact (below_size (by repeat (first|(with_reducible first|exact HB.out|apply below_alloc|apply pw_below_drewN|apply below_drew1|refine below_set ?_ GE174.out|refine below_set ?_ GE175.out)|exact HB.out))) : w.heap.size ≤ gb176)); have n6_ := Aside0.mk ((by rw [hg]; exact Nat.ne_of_lt (blk_lt (g := gb174) (o := .cells #[.int .i64 a0_0, .string a0_1, .int .i64 a0_2, .int .i64 a0_3, .slice A0_4 l0_4.length c0_4] 24 (0, 0)) (by (with_reducible repeat (first|refine blk_drewN ?_ _|refine blk_drew ?_|refine blk_alloc ?_ _)); exact BK174.out)) : gb174 ≠ gb176)); have n7_ := Aside0.mk ((by rw [hg]; exact Nat.ne_of_gt (blk_lt (g := gb174) (o := .cells #[.int .i64 a0_0, .string a0_1, .int .i64 a0_2, .int .i64 a0_3, .slice A0_4 l0_4.length c0_4] 24 (0, 0)) (by (with_reducible repeat (first|refine blk_drewN ?_ _|refine blk_drew ?_|refine blk_alloc ?_ _)); exact BK174.out)) : gb176 ≠ gb174)); have n8_ := Aside0.mk ((by rw [hg]; exact Nat.ne_of_lt (blk_lt (g := gb175) (o := .cells #[.int .i64 0, .string (⟨#[]⟩ : ByteArray), .int .i64 0, .int .i64 0, .slice none 0 0] 24 (0, 0)) (by (with_reducible repeat (first|refine blk_drewN ?_ _|refine blk_drew ?_|refine blk_alloc ?_ _)); exact BK175.out)) : gb175 ≠ gb176)); have n9_ := Aside0.mk ((by rw [hg]; exact Nat.ne_of_gt (blk_lt (g := gb175) (o := .cells #[.int .i64 0, .string (⟨#[]⟩ : ByteArray), .int .i64 0, .int .i64 0, .slice none 0 0] 24 (0, 0)) (by (with_reducible repeat (first|refine blk_drewN ?_ _|refine blk_drew ?_|refine blk_alloc ?_ _)); exact BK175.out)) : gb176 ≠ gb175)); clear BK174; clear BK175; clear HB; have BK174 := n0_; have BK175 := n1_; have HB := n2_; have BK176 := n3_; have GW176 := n4_; have GE176 := n5_; have NB174_176 := n6_; have NB176_174 := n7_; have NB175_176 := n8_; have NB176_175 := n9_; clear n0_ n1_ n2_ n3_ n4_ n5_ n6_ n7_ n8_ n9_; clear hb hbox hg; have hnb7 := NB176_174.out; have hnc7 := NB174_176.out; have hnb8 := NB176_175.out; have hnc8 := NB175_176.out; have hcz9_0 : w6.cell? ⟨gb176, 0, none⟩ = some (.int .i64 0) := (blk_cell BK176.out 0).trans rfl; have hcz9_1 : w6.cell? ⟨gb176, 1, none⟩ = some (.string (⟨#[]⟩ : ByteArray)) := (blk_cell BK176.out 1).trans rfl; have hcz9_2 : w6.cell? ⟨gb176, 2, none⟩ = some (.int .i64 0) := (blk_cell BK176.out 2).trans rfl; have hcz9_3 : w6.cell? ⟨gb176, 3, none⟩ = some (.int .i64 0) := (blk_cell BK176.out 3).trans rfl; have hcz9_4 : w6.cell? ⟨gb176, 4, none⟩ = some (.slice none 0 0) := (blk_cell BK176.out 4).trans rfl; have hfz9_0 := blk_frozen BK176.out 0; have hfz9_1 := blk_frozen BK176.out 1; have hfz9_2 := blk_frozen BK176.out 2; have hfz9_3 := blk_frozen BK176.out 3; have hfz9_4 := blk_frozen BK176.out 4))
 go_loopg [4] k (fun kq v4 w' => ∃ (x4_1 : Int) (x177004_1 : List (S24)) (u177004 : Value), v4 = .int .i64 x4_1 ∧ Aside0 (gossamerref02_Bare.l0 kq x4_1 a0_0 a0_1 a0_2 a0_3 l0_4 a0_0 a0_1 a0_2 0 x177004_1 = some (r1, r2, r3, r4, r5)) ∧ Aside0 (kq ≤ k) ∧ Aside0 (Kd.R k24 24 w' w.heap.size (fun k_ => k_ ≠ gb174 ∧ k_ ≠ gb175 ∧ k_ ≠ gb176) u177004 x177004_1) ∧ Aside0 (w'.heap[gb174]? = some (.cells #[.int .i64 a0_0, .string a0_1, .int .i64 a0_2, .int .i64 a0_3, (.slice A0_4 l0_4.length c0_4)] 24 (0, 0))) ∧ Aside0 (w'.heap[gb175]? = some (.cells #[.int .i64 0, .string (⟨#[]⟩ : ByteArray), .int .i64 0, .int .i64 0, (.slice none 0 0)] 24 (0, 0))) ∧ Aside0 (w'.heap[gb176]? = some (.cells #[.int .i64 a0_0, .string a0_1, .int .i64 a0_2, .int .i64 0, u177004] 24 (0, 0))) ∧ Aside0 (Below w.heap.size w w'))
 case atStart => exact ⟨(0), (([] : List (S24))), (.slice none 0 0), (by first|rfl|(simp; done)|(simp [*]; done)), H', ⟨Nat.le_refl _⟩, ⟨by first|exact Kd.R_nil _ _ _ _ _|exact Kd.N_nil _ _ _ _ _|exact Kd.V_nil _ _ _ _ _|exact Kd.Q_nil _ _ _ _ _|exact Kd.S_nil _ _ _ _ _⟩, ⟨by (with_reducible repeat (first|refine blk_drewN ?_ _|refine blk_drew ?_|refine blk_alloc ?_ _)); refine blk_far ?_ NB174_176.out _; (with_reducible repeat (first|refine blk_drewN ?_ _|refine blk_drew ?_|refine blk_alloc ?_ _)); refine blk_far ?_ NB174_176.out _; (with_reducible repeat (first|refine blk_drewN ?_ _|refine blk_drew ?_|refine blk_alloc ?_ _)); refine blk_far ?_ NB174_176.out _; (with_reducible repeat (first|refine blk_drewN ?_ _|refine blk_drew ?_|refine blk_alloc ?_ _)); refine blk_far ?_ NB174_176.out _; (with_reducible repeat (first|refine blk_drewN ?_ _|refine blk_drew ?_|refine blk_alloc ?_ _)); refine blk_far ?_ NB174_176.out _; (with_reducible repeat (first|refine blk_drewN ?_ _|refine blk_drew ?_|refine blk_alloc ?_ _)); exact BK174.out⟩, ⟨by (with_reducible repeat (first|refine blk_drewN ?_ _|refine blk_drew ?_|refine blk_alloc ?_ _)); refine blk_far ?_ NB175_176.out _; (with_reducible repeat (first|refine blk_drewN ?_ _|refine blk_drew ?_|refine blk_alloc ?_ _)); refine blk_far ?_ NB175_176.out _; (with_reducible repeat (first|refine blk_drewN ?_ _|refine blk_drew ?_|refine blk_alloc ?_ _)); refine blk_far ?_ NB175_176.out _; (with_reducible repeat (first|refine blk_drewN ?_ _|refine blk_drew ?_|refine blk_alloc ?_ _)); refine blk_far ?_ NB175_176.out _; (with_reducible repeat (first|refine blk_drewN ?_ _|refine blk_drew ?_|refine blk_alloc ?_ _)); refine blk_far ?_ NB175_176.out _; (with_reducible repeat (first|refine blk_drewN ?_ _|refine blk_drew ?_|refine blk_alloc ?_ _)); exact BK175.out⟩, ⟨by (with_reducible repeat (first|refine blk_drewN ?_ _|refine blk_drew ?_|refine blk_alloc ?_ _)); refine blk_put (cs := #[.int .i64 a0_0, .string a0_1, .int .i64 a0_2, .int .i64 0, .slice none 0 0]) ?_ 4 _ rfl; (with_reducible repeat (first|refine blk_drewN ?_ _|refine blk_drew ?_|refine blk_alloc ?_ _)); refine blk_put (cs := #[.int .i64 a0_0, .string a0_1, .int .i64 a0_2, .int .i64 0, .slice none 0 0]) ?_ 3 _ rfl; (with_reducible repeat (first|refine blk_drewN ?_ _|refine blk_drew ?_|refine blk_alloc ?_ _)); refine blk_put (cs := #[.int .i64 a0_0, .string a0_1, .int .i64 0, .int .i64 0, .slice none 0 0]) ?_ 2 _ rfl; (with_reducible repeat (first|refine blk_drewN ?_ _|refine blk_drew ?_|refine blk_alloc ?_ _)); refine blk_put (cs := #[.int .i64 a0_0, .string (⟨#[]⟩ : ByteArray), .int .i64 0, .int .i64 0, .slice none 0 0]) ?_ 1 _ rfl; (with_reducible repeat (first|refine blk_drewN ?_ _|refine blk_drew ?_|refine blk_alloc ?_ _)); refine blk_put (cs := #[.int .i64 0, .string (⟨#[]⟩ : ByteArray), .int .i64 0, .int .i64 0, .slice none 0 0]) ?_ 0 _ rfl; (with_reducible repeat (first|refine blk_drewN ?_ _|refine blk_drew ?_|refine blk_alloc ?_ _)); exact BK176.out⟩, ⟨by repeat (first|(with_reducible first|exact HB.out|apply below_alloc|apply pw_below_drewN|apply below_drew1|refine below_set ?_ GE174.out|refine below_set ?_ GE175.out|refine below_set ?_ GE176.out)|exact HB.out)⟩⟩
 case round =>
  clear H'
  try clear c1
  try clear p2
  try clear c4
  try clear c7
  try clear c8
  try clear hcz5_0
  try clear hcz5_1
  try clear hcz5_2
  try clear hcz5_3
  try clear hcz5_4
  try clear hcz9_0
  try clear hcz9_1
  try clear hcz9_2
  try clear hcz9_3
  try clear hcz9_4
  try clear hfz5_0
  try clear hfz5_1
  try clear hfz5_2
  try clear hfz5_3
  try clear hfz5_4
  try clear hfz9_0
  try clear hfz9_1
  try clear hfz9_2
  try clear hfz9_3
  try clear hfz9_4
  obtain ⟨x4_1, x177004_1, u177004, rfl, HA, HK1, HO_177004, BK174, BK175, BK176, HB⟩ := hrel
  cases gk with
  | zero => exact absurd HA.out (by simp [gossamerref02_Bare.l0])
  | succ k1 =>
   have H := HA.out
   clear HA
   simp only [gossamerref02_Bare.l0] at H
   by_cases c10 : x4_1 < (l0_4.length : Int)
   ·rw [if_pos c10] at H
    have c10b0 : decide (x4_1 < (l0_4.length : Int)) = true := decide_eq_true c10
    clear c10
    by_cases c11 : 0 ≤ x4_1
    ·rw [if_pos c11] at H
     have c11b0 : decide (0 ≤ x4_1) = true := decide_eq_true c11
     clear c11
     replace H := Option.bind_eq_some_iff.mp H
     obtain ⟨⟨t178, t179, t180, t181, t182⟩, A120, H⟩ := H
     replace H : (if x177004_1.length < 2199023255552 then (gossamerref02_Bare.l0 k1 (wrap64 (x4_1 + 1)) a0_0 a0_1 a0_2 a0_3 l0_4 a0_0 a0_1 a0_2 0 (x177004_1 ++ [(⟨t178, t179, t180, t181, t182⟩ : S24)])) else (none)) = some (r1, r2, r3, r4, r5) := H
     have A12 := Aside0.mk A120
     clear A120
     by_cases c13 : x177004_1.length < 2199023255552
     ·rw [if_pos c13] at H
      have LMc13 := Aside0.mk c13
      clear c13
      obtain ⟨y185, hy185⟩ : ∃ y_ : List (S24), y_ = (x177004_1 ++ [(⟨t178, t179, t180, t181, t182⟩ : S24)]) := ⟨_, rfl⟩
      replace H : (gossamerref02_Bare.l0 k1 (wrap64 (x4_1 + 1)) a0_0 a0_1 a0_2 a0_3 l0_4 a0_0 a0_1 a0_2 0 y185) = some (r1, r2, r3, r4, r5) := by first | (rw [hy185]; with_reducible exact H) | (have H2_ := (Option.bind_some _ _).symm.trans H; rw [hy185]; with_reducible exact H2_) | (have H2_ := (Option.bind_some _ _).symm.trans H; with_reducible exact H2_) | with_reducible exact H | (rw [hy185]; exact H)|exact H
      have Ny185 := Aside0.mk hy185
      clear hy185
      have H' := Aside0.mk H
      clear H
      have hnb14 := NB174_175.out
      have hnc14 := NB175_174.out
      have hnb15 := NB174_176.out
      have hnc15 := NB176_174.out
      have hcz16_0 : wr.cell? ⟨gb174, 0, none⟩ = some (.int .i64 a0_0) := (blk_cell BK174.out 0).trans rfl
      have hcz16_1 : wr.cell? ⟨gb174, 1, none⟩ = some (.string a0_1) := (blk_cell BK174.out 1).trans rfl
      have hcz16_2 : wr.cell? ⟨gb174, 2, none⟩ = some (.int .i64 a0_2) := (blk_cell BK174.out 2).trans rfl
      have hcz16_3 : wr.cell? ⟨gb174, 3, none⟩ = some (.int .i64 a0_3) := (blk_cell BK174.out 3).trans rfl
      have hcz16_4 : wr.cell? ⟨gb174, 4, none⟩ = some (.slice A0_4 l0_4.length c0_4) := (blk_cell BK174.out 4).trans rfl
      have hfz16_0 := blk_frozen BK174.out 0
      have hfz16_1 := blk_frozen BK174.out 1
      have hfz16_2 := blk_frozen BK174.out 2
      have hfz16_3 := blk_frozen BK174.out 3
      have hfz16_4 := blk_frozen BK174.out 4
      try go_wp2
      have n0_ := Aside0.mk (Kd.R_drew HO_177004.out)
      have n1_ := Aside0.mk (blk_drew BK174.out)
      have n2_ := Aside0.mk (blk_drew BK175.out)
      have n3_ := Aside0.mk (blk_drew BK176.out)
      have n4_ := Aside0.mk (below_drew1 HB.out)
      clear HO_177004
      clear BK174
      clear BK175
      clear BK176
      clear HB
      have HO_177004 := n0_
      have BK174 := n1_
      have BK175 := n2_
      have BK176 := n3_
      have HB := n4_
      clear n0_ n1_ n2_ n3_ n4_
      have p177 : 0 ≤ (x4_1 : Int) := of_decide_eq_true (by first|(with_reducible assumption) | assumption)
      have q177 : x4_1 < (l0_4.length : Int) := of_decide_eq_true (by first|(with_reducible assumption) | assumption)
      obtain ⟨ad177, A177_4, c177_4, e177, hx177_0, hx177_1, hx177_2, hx177_3, hx177_4, hl177_4, hi177_4⟩ := at_T24 HR0_4.out x4_1 p177 q177
      have hw177_4 := hx177_4
      have hw177_3 := hx177_3
      have hw177_2 := hx177_2
      have hw177_1 := hx177_1
      have hw177_0 := hx177_0
      cases e177
      replace hx177_0 := (HB.out.cell (World.block_lt_of_cell? w _ hx177_0)).trans hx177_0
      replace hx177_1 := (HB.out.cell (World.block_lt_of_cell? w _ hx177_1)).trans hx177_1
      replace hx177_2 := (HB.out.cell (World.block_lt_of_cell? w _ hx177_2)).trans hx177_2
      replace hx177_3 := (HB.out.cell (World.block_lt_of_cell? w _ hx177_3)).trans hx177_3
      replace hx177_4 := (HB.out.cell (World.block_lt_of_cell? w _ hx177_4)).trans hx177_4
      have HR177_4 := Aside0.mk hi177_4
      have HC177_4 := Aside0.mk hl177_4
      clear hi177_4 hl177_4
      replace p177 := eq_true p177
      replace q177 := eq_true q177
      refine start_ (n := 12) (S := fun w' => w'.cell? ⟨gb176, 0, none⟩ = some (.int .i64 a0_0) ∧ w'.cell? ⟨gb176, 1, none⟩ = some (.string a0_1) ∧ w'.cell? ⟨gb176, 2, none⟩ = some (.int .i64 a0_2) ∧ w'.cell? ⟨gb176, 3, none⟩ = some (.int .i64 0) ∧ w'.cell? ⟨gb176, 4, none⟩ = some (u177004) ∧ w'.cell? ⟨gb174, 0, none⟩ = some (.int .i64 a0_0) ∧ w'.cell? ⟨gb174, 1, none⟩ = some (.string a0_1) ∧ w'.cell? ⟨gb174, 2, none⟩ = some (.int .i64 a0_2) ∧ w'.cell? ⟨gb174, 3, none⟩ = some (.int .i64 a0_3) ∧ w'.cell? ⟨gb174, 4, none⟩ = some (.slice (some ad177) l0_4.length c0_4) ∧ w'.cell? (ad177.add ((x4_1).toNat * 5)) = some (.int .i64 ((rd_T24 l0_4 x4_1).f0)) ∧ w'.cell? ⟨(ad177.add ((x4_1).toNat * 5)).block, (ad177.add ((x4_1).toNat * 5)).off + 1, none⟩ = some (.string ((rd_T24 l0_4 x4_1).f1)) ∧ w'.cell? ⟨(ad177.add ((x4_1).toNat * 5)).block, (ad177.add ((x4_1).toNat * 5)).off + 2, none⟩ = some (.int .i64 ((rd_T24 l0_4 x4_1).f2)) ∧ w'.cell? ⟨(ad177.add ((x4_1).toNat * 5)).block, (ad177.add ((x4_1).toNat * 5)).off + 3, none⟩ = some (.int .i64 ((rd_T24 l0_4 x4_1).f3)) ∧ w'.cell? ⟨(ad177.add ((x4_1).toNat * 5)).block, (ad177.add ((x4_1).toNat * 5)).off + 4, none⟩ = some (.slice A177_4 ((rd_T24 l0_4 x4_1).f4).length c177_4)) (ds := [11]) #[false, false, false, false, false, false, false, false, false, false, false, false] (by kernel_rfl) rfl rfl ⟨(blk_cell BK176.out 0).trans rfl, (blk_cell BK176.out 1).trans rfl, (blk_cell BK176.out 2).trans rfl, (blk_cell BK176.out 3).trans rfl, (blk_cell BK176.out 4).trans rfl, (blk_cell BK174.out 0).trans rfl, (blk_cell BK174.out 1).trans rfl, (blk_cell BK174.out 2).trans rfl, (blk_cell BK174.out 3).trans rfl, (blk_cell BK174.out 4).trans rfl, ((HB.out.cell (World.block_lt_of_cell? w _ hw177_0)).trans hw177_0), ((HB.out.cell (World.block_lt_of_cell? w _ hw177_1)).trans hw177_1), ((HB.out.cell (World.block_lt_of_cell? w _ hw177_2)).trans hw177_2), ((HB.out.cell (World.block_lt_of_cell? w _ hw177_3)).trans hw177_3), ((HB.out.cell (World.block_lt_of_cell? w _ hw177_4)).trans hw177_4)⟩ (fun hHeld => ?_); refine with_tabW gossamerref02_Bare.tab5 gossamerref02_Bare.bits5 (fun HT_ HW_ => ?_)
      generalize wr.drew = w17 at HO_177004 BK174 BK175 BK176 HB HR177_4 hx177_0 hx177_1 hx177_2 hx177_3 hx177_4 hHeld ⊢
      refine pure_ (i := 0) (N := some 19) (v := ?_) (a' := ?_) #[true, false, false, false, false, false, false, false, false, false, false, false] rfl rfl (any_of HT_.out (by kernel_rfl)) (fun _ _ _ h => h) (Or.inl ⟨by rfl, ?_⟩) ?_ ?_
      rotate_left
      ·intro w'
       go_simp
       with_reducible rfl
      rotate_left
      ·simp only [Act.put, List.setIfInBounds_toArray, List.set_cons_zero, List.set_cons_succ, i64_w, i32_w]
       rfl
      refine pure_ (i := 2) (N := some 21) (v := ?_) (a' := ?_) #[true, false, true, false, false, false, false, false, false, false, false, false] rfl rfl (any_of HT_.out (by kernel_rfl)) (fun _ _ _ h => h) (Or.inl ⟨by rfl, ?_⟩) ?_ ?_
      rotate_left
      ·intro w'
       go_simp
       with_reducible rfl
      rotate_left
      ·simp only [Act.put, List.setIfInBounds_toArray, List.set_cons_zero, List.set_cons_succ, i64_w, i32_w]
       rfl
      refine pure_ (i := 4) (N := some 23) (v := ?_) (a' := ?_) #[true, false, true, false, true, false, false, false, false, false, false, false] rfl rfl (any_of HT_.out (by kernel_rfl)) (fun _ _ _ h => h) (Or.inl ⟨by rfl, ?_⟩) ?_ ?_
      rotate_left
      ·intro w'
       go_simp
       with_reducible rfl
      rotate_left
      ·simp only [Act.put, List.setIfInBounds_toArray, List.set_cons_zero, List.set_cons_succ, i64_w, i32_w]
       rfl
      refine take_ (i := 1) (N := some 20) (v := ?_) (a' := ?_) #[true, true, true, false, true, false, false, false, false, false, false, false] rfl rfl (take_ofW HT_.out HW_.out (by kernel_rfl)) (fun _ _ _ h => h) (Or.inl ⟨by rfl, ?_⟩) hHeld ?_ ?_
      rotate_left
      ·rintro w' ⟨s0, s1, s2, s3, s4, s5, s6, s7, s8, s9, s10, s11, s12, s13, s14⟩
       go_simp
       with_reducible rfl
      rotate_left
      ·simp only [Act.put, List.setIfInBounds_toArray, List.set_cons_zero, List.set_cons_succ, i64_w, i32_w]
       rfl
      refine take_ (i := 3) (N := some 22) (v := ?_) (a' := ?_) #[true, true, true, true, true, false, false, false, false, false, false, false] rfl rfl (take_ofW HT_.out HW_.out (by kernel_rfl)) (fun _ _ _ h => h) (Or.inl ⟨by rfl, ?_⟩) hHeld ?_ ?_
      rotate_left
      ·rintro w' ⟨s0, s1, s2, s3, s4, s5, s6, s7, s8, s9, s10, s11, s12, s13, s14⟩
       go_simp
       with_reducible rfl
      rotate_left
      ·simp only [Act.put, List.setIfInBounds_toArray, List.set_cons_zero, List.set_cons_succ, i64_w, i32_w]
       rfl
      refine pure_ (i := 5) (N := some 24) (v := ?_) (a' := ?_) #[true, true, true, true, true, true, false, false, false, false, false, false] rfl rfl (any_of HT_.out (by kernel_rfl)) (fun _ _ _ h => h) (Or.inl ⟨by rfl, ?_⟩) ?_ ?_
      rotate_left
      ·intro w'
       go_simp
       with_reducible rfl
      rotate_left
      ·simp only [Act.put, List.setIfInBounds_toArray, List.set_cons_zero, List.set_cons_succ, i64_w, i32_w]
       rfl
      refine take_ (i := 6) (N := some 25) (v := ?_) (a' := ?_) #[true, true, true, true, true, true, true, false, false, false, false, false] rfl rfl (take_ofW HT_.out HW_.out (by kernel_rfl)) (fun _ _ _ h => h) (Or.inl ⟨by rfl, ?_⟩) hHeld ?_ ?_
      rotate_left
      ·rintro w' ⟨s0, s1, s2, s3, s4, s5, s6, s7, s8, s9, s10, s11, s12, s13, s14⟩
       go_simp
       with_reducible rfl
      rotate_left
      ·simp only [Act.put, List.setIfInBounds_toArray, List.set_cons_zero, List.set_cons_succ, i64_w, i32_w]
       rfl
      refine one_ (i := 7) (N := some 26) #[true, true, true, true, true, true, true, true, false, false, false, false] rfl rfl (one_of HT_.out (by kernel_rfl)) (by decide) (fun K hK => ?_)
      refine goes_ Tryz.func14 (by kernel_rfl) rfl #[.agg #[.int .i64 ((rd_T24 l0_4 x4_1).f0), .string ((rd_T24 l0_4 x4_1).f1), .int .i64 ((rd_T24 l0_4 x4_1).f2), .int .i64 ((rd_T24 l0_4 x4_1).f3), .slice A177_4 ((rd_T24 l0_4 x4_1).f4).length c177_4]] (by rfl) rfl rfl (by (try simp only [List.map_toArray, List.map_cons, List.map_nil]); first|done|rfl|(simp only [List.length_drop, List.length_take]; rfl)) ?_
      with_reducible refine (ih k1 (by have := HK1.out; omega) ((rd_T24 l0_4 x4_1).f0) ((rd_T24 l0_4 x4_1).f1) ((rd_T24 l0_4 x4_1).f2) ((rd_T24 l0_4 x4_1).f3) _ _ ((rd_T24 l0_4 x4_1).f4) t178 t179 t180 t181 t182 _ ?side1 ?side2 A12.out).mono ?_
      (case side1 => repeat (first|exact (Kd.C_below HR177_4.out HB.out)|(with_reducible refine Kd.C_alloc ?_ _)|(with_reducible refine Kd.C_drewN ?_ _)|(with_reducible refine Kd.C_drew ?_)))
      (case side2 => exact HC177_4.out)
      rintro e w18 ⟨v183, rfl, ho0, hb⟩
      refine ⟨_, rfl, ?_⟩
      have n0_ := Aside0.mk (Kd.R_elder' (by (with_reducible repeat (first|apply Kd.R_alloc|apply Kd.R_drewN|apply Kd.R_drew)); exact HO_177004.out) (Kd.R_base ho0) hb)
      have n1_ := Aside0.mk (Kd.R_lower (Kd.R_newB (Kd.R_newB (Kd.R_newB (Kd.R_new' ho0 (Kd.R_lt (by (with_reducible repeat (first|apply Kd.R_alloc|apply Kd.R_drewN|apply Kd.R_drew)); exact HO_177004.out))) (g := gb174) (o := .cells #[.int .i64 a0_0, .string a0_1, .int .i64 a0_2, .int .i64 a0_3, .slice (some ad177) l0_4.length c0_4] 24 (0, 0)) (by (with_reducible repeat (first|refine blk_drewN ?_ _|refine blk_drew ?_|refine blk_alloc ?_ _)); exact BK174.out)) (g := gb175) (o := .cells #[.int .i64 0, .string (⟨#[]⟩ : ByteArray), .int .i64 0, .int .i64 0, .slice none 0 0] 24 (0, 0)) (by (with_reducible repeat (first|refine blk_drewN ?_ _|refine blk_drew ?_|refine blk_alloc ?_ _)); exact BK175.out)) (g := gb176) (o := .cells #[.int .i64 a0_0, .string a0_1, .int .i64 a0_2, .int .i64 0, u177004] 24 (0, 0)) (by (with_reducible repeat (first|refine blk_drewN ?_ _|refine blk_drew ?_|refine blk_alloc ?_ _)); exact BK176.out)) (below_size (by repeat (first|(with_reducible first|exact HB.out|apply below_alloc|apply pw_below_drewN|apply below_drew1|refine below_set ?_ GE174.out|refine below_set ?_ GE175.out|refine below_set ?_ GE176.out)|exact HB.out))))
      have n2_ := Aside0.mk (blk_below (g := gb174) (o := .cells #[.int .i64 a0_0, .string a0_1, .int .i64 a0_2, .int .i64 a0_3, .slice (some ad177) l0_4.length c0_4] 24 (0, 0)) (by (with_reducible repeat (first|refine blk_drewN ?_ _|refine blk_drew ?_|refine blk_alloc ?_ _)); exact BK174.out) hb)
      have n3_ := Aside0.mk (blk_below (g := gb175) (o := .cells #[.int .i64 0, .string (⟨#[]⟩ : ByteArray), .int .i64 0, .int .i64 0, .slice none 0 0] 24 (0, 0)) (by (with_reducible repeat (first|refine blk_drewN ?_ _|refine blk_drew ?_|refine blk_alloc ?_ _)); exact BK175.out) hb)
      have n4_ := Aside0.mk (blk_below (g := gb176) (o := .cells #[.int .i64 a0_0, .string a0_1, .int .i64 a0_2, .int .i64 0, u177004] 24 (0, 0)) (by (with_reducible repeat (first|refine blk_drewN ?_ _|refine blk_drew ?_|refine blk_alloc ?_ _)); exact BK176.out) hb)
      have n5_ := Aside0.mk (below_step (by repeat (first|(with_reducible first|exact HB.out|apply below_alloc|apply pw_below_drewN|apply below_drew1|refine below_set ?_ GE174.out|refine below_set ?_ GE175.out|refine below_set ?_ GE176.out)|exact HB.out)) hb)
      clear HO_177004
      clear BK174
      clear BK175
      clear BK176
      clear HB
      have HO_177004 := n0_
      have HO184 := n1_
      have BK174 := n2_
      have BK175 := n3_
      have BK176 := n4_
      have HB := n5_
      clear n0_ n1_ n2_ n3_ n4_ n5_
      (try clear hb)
      (try clear hb2)
      (try clear hk)
      (try clear hi)
      (try clear ho0)
      obtain ⟨Ao20, co20, eo20⟩ := Kd.R_slice HO184.out
      (first|subst eo20 | (injection eo20 with f1_ f2_ f3_; have f4_ := f1_.symm; have f5_ := f3_.symm; clear f1_ f2_ f3_; subst f4_; subst f5_))
      refine hK.out _ _ ⟨(blk_cell BK176.out 0).trans rfl, (blk_cell BK176.out 1).trans rfl, (blk_cell BK176.out 2).trans rfl, (blk_cell BK176.out 3).trans rfl, (blk_cell BK176.out 4).trans rfl, (blk_cell BK174.out 0).trans rfl, (blk_cell BK174.out 1).trans rfl, (blk_cell BK174.out 2).trans rfl, (blk_cell BK174.out 3).trans rfl, (blk_cell BK174.out 4).trans rfl, ((HB.out.cell (World.block_lt_of_cell? w _ hw177_0)).trans hw177_0), ((HB.out.cell (World.block_lt_of_cell? w _ hw177_1)).trans hw177_1), ((HB.out.cell (World.block_lt_of_cell? w _ hw177_2)).trans hw177_2), ((HB.out.cell (World.block_lt_of_cell? w _ hw177_3)).trans hw177_3), ((HB.out.cell (World.block_lt_of_cell? w _ hw177_4)).trans hw177_4)⟩ (fun hHeld => ?_)
      clear hK K
      refine norm_ (a' := ?_) ?_ ?_
      rotate_left
      ·show Act.put _ (some 26) _ = _
       simp only [Act.put, List.setIfInBounds_toArray, List.set_cons_zero, List.set_cons_succ, i64_w, i32_w]
       rfl
      refine one_ (i := 8) (N := some 27) #[true, true, true, true, true, true, true, true, true, false, false, false] rfl rfl (one_of HT_.out (by kernel_rfl)) (by decide) (fun K hK => ?_)
      refine value_ (w1 := ?_) (v := ?_) (by rfl) rfl ?_ ?_
      rotate_left 2
      ·go_simp
       constructor
       ·rfl
       ·rfl
      refine hK.out _ _ ⟨(blk_cell (blk_alloc BK176.out _) 0).trans rfl, (blk_cell (blk_alloc BK176.out _) 1).trans rfl, (blk_cell (blk_alloc BK176.out _) 2).trans rfl, (blk_cell (blk_alloc BK176.out _) 3).trans rfl, (blk_cell (blk_alloc BK176.out _) 4).trans rfl, (blk_cell (blk_alloc BK174.out _) 0).trans rfl, (blk_cell (blk_alloc BK174.out _) 1).trans rfl, (blk_cell (blk_alloc BK174.out _) 2).trans rfl, (blk_cell (blk_alloc BK174.out _) 3).trans rfl, (blk_cell (blk_alloc BK174.out _) 4).trans rfl, (World.cell?_alloc_lt _ _ _ (World.block_lt_of_cell? _ _ (((HB.out.cell (World.block_lt_of_cell? w _ hw177_0)).trans hw177_0)))).trans (((HB.out.cell (World.block_lt_of_cell? w _ hw177_0)).trans hw177_0)), (World.cell?_alloc_lt _ _ _ (World.block_lt_of_cell? _ _ (((HB.out.cell (World.block_lt_of_cell? w _ hw177_1)).trans hw177_1)))).trans (((HB.out.cell (World.block_lt_of_cell? w _ hw177_1)).trans hw177_1)), (World.cell?_alloc_lt _ _ _ (World.block_lt_of_cell? _ _ (((HB.out.cell (World.block_lt_of_cell? w _ hw177_2)).trans hw177_2)))).trans (((HB.out.cell (World.block_lt_of_cell? w _ hw177_2)).trans hw177_2)), (World.cell?_alloc_lt _ _ _ (World.block_lt_of_cell? _ _ (((HB.out.cell (World.block_lt_of_cell? w _ hw177_3)).trans hw177_3)))).trans (((HB.out.cell (World.block_lt_of_cell? w _ hw177_3)).trans hw177_3)), (World.cell?_alloc_lt _ _ _ (World.block_lt_of_cell? _ _ (((HB.out.cell (World.block_lt_of_cell? w _ hw177_4)).trans hw177_4)))).trans (((HB.out.cell (World.block_lt_of_cell? w _ hw177_4)).trans hw177_4))⟩ (fun hHeld => ?_)
      clear hK K
      refine norm_ (a' := ?_) ?_ ?_
      rotate_left
      ·show Act.put _ (some 27) _ = _
       simp only [Act.put, List.setIfInBounds_toArray, List.set_cons_zero, List.set_cons_succ, i64_w, i32_w]
       rfl
      refine one_ (i := 9) (N := some 28) #[true, true, true, true, true, true, true, true, true, true, false, false] rfl rfl (one_of HT_.out (by kernel_rfl)) (by decide) (fun K hK => ?_)
      refine Kd.R_append_step k24 (w0 := w) w.heap.size (by rfl) (.tmp 20) (.tmp 27) 22 24 (.agg #[(.int .i64 0), (.string ⟨#[]⟩), (.int .i64 0), (.int .i64 0), (.slice none 0 0)]) 64 rfl Tryz.underlying22 info24 rfl (by decide) (by omega) u177004 x177004_1 (⟨t178, t179, t180, t181, t182⟩ : S24) [.int .i64 t178, .string t179, .int .i64 t180, .int .i64 t181, .slice Ao20 t182.length co20] (fun k_ => k_ ≠ gb174 ∧ k_ ≠ gb175 ∧ k_ ≠ gb176) (fun k_ => ((fun k_ => k_ ≠ gb174 ∧ k_ ≠ gb175 ∧ k_ ≠ gb176)) k_ ∧ some k_ ≠ (u177004 : Value).ownBlock) rfl rfl ?aP (fun _ hk => hk) ?aF ?aO ?aB ?aS ?aL ?_
      (case aP => exact k24_mkM _ _ _ (⟨t178, t179, t180, t181, t182⟩ : S24) (Kd.R_mono (HO184.out) (fun k_ hk => ⟨⟨hk.1.1.2, ⟨hk.1.2, hk.2⟩⟩, hk.1.1.1.2⟩)))
      (case aB => exact (by repeat (first|(with_reducible first|exact HB.out|apply below_alloc|apply pw_below_drewN|apply below_drew1|refine below_set ?_ GE174.out|refine below_set ?_ GE175.out|refine below_set ?_ GE176.out)|exact HB.out)))
      (case aF => exact (fun k_ hk => ⟨Kd.freshB (g := gb174) (o := .cells #[.int .i64 a0_0, .string a0_1, .int .i64 a0_2, .int .i64 a0_3, .slice (some ad177) l0_4.length c0_4] 24 (0, 0)) (by (with_reducible repeat (first|refine blk_drewN ?_ _|refine blk_drew ?_|refine blk_alloc ?_ _)); exact BK174.out) k_ hk, Kd.freshB (g := gb175) (o := .cells #[.int .i64 0, .string (⟨#[]⟩ : ByteArray), .int .i64 0, .int .i64 0, .slice none 0 0] 24 (0, 0)) (by (with_reducible repeat (first|refine blk_drewN ?_ _|refine blk_drew ?_|refine blk_alloc ?_ _)); exact BK175.out) k_ hk, Kd.freshB (g := gb176) (o := .cells #[.int .i64 a0_0, .string a0_1, .int .i64 a0_2, .int .i64 0, u177004] 24 (0, 0)) (by (with_reducible repeat (first|refine blk_drewN ?_ _|refine blk_drew ?_|refine blk_alloc ?_ _)); exact BK176.out) k_ hk⟩))
      (case aO => exact (by (with_reducible repeat (first|apply Kd.R_alloc|apply Kd.R_drewN|apply Kd.R_drew)); exact Kd.R_mono HO_177004.out (fun _ hk => ⟨hk.1.1, ⟨hk.1.2.1, hk.1.2.2⟩⟩)))
      (case aS => exact (below_size (by repeat (first|(with_reducible first|exact HB.out|apply below_alloc|apply pw_below_drewN|apply below_drew1|refine below_set ?_ GE174.out|refine below_set ?_ GE175.out|refine below_set ?_ GE176.out)|exact HB.out))))
      (case aL => have := LMc13.out; omega)
      intro v186 w19 ho hb hg hat
      rw [← Ny185.out] at ho
      have n0_ := Aside0.mk (blk_grown (g := gb174) (o := .cells #[.int .i64 a0_0, .string a0_1, .int .i64 a0_2, .int .i64 a0_3, .slice (some ad177) l0_4.length c0_4] 24 (0, 0)) (by (with_reducible repeat (first|refine blk_drewN ?_ _|refine blk_drew ?_|refine blk_alloc ?_ _)); exact BK174.out) hg (Kd.R_away HO_177004.out (fun _ hk => hk.1.1)))
      have n1_ := Aside0.mk (blk_grown (g := gb175) (o := .cells #[.int .i64 0, .string (⟨#[]⟩ : ByteArray), .int .i64 0, .int .i64 0, .slice none 0 0] 24 (0, 0)) (by (with_reducible repeat (first|refine blk_drewN ?_ _|refine blk_drew ?_|refine blk_alloc ?_ _)); exact BK175.out) hg (Kd.R_away HO_177004.out (fun _ hk => hk.1.2.1)))
      have n2_ := Aside0.mk (blk_grown (g := gb176) (o := .cells #[.int .i64 a0_0, .string a0_1, .int .i64 a0_2, .int .i64 0, u177004] 24 (0, 0)) (by (with_reducible repeat (first|refine blk_drewN ?_ _|refine blk_drew ?_|refine blk_alloc ?_ _)); exact BK176.out) hg (Kd.R_away HO_177004.out (fun _ hk => hk.1.2.2)))
      have n3_ := Aside0.mk (hb)
      have n4_ := Aside0.mk (ho)
      clear BK174
      clear BK175
      clear BK176
      clear HB
      clear HO_177004
      clear HO184
      have BK174 := n0_
      have BK175 := n1_
      have BK176 := n2_
      have HB := n3_
      have HO187 := n4_
      clear n0_ n1_ n2_ n3_ n4_
      clear ho hb hg hat
      obtain ⟨Ao21, co21, eo21⟩ := Kd.R_slice HO187.out
      (first|subst eo21 | (injection eo21 with f1_ f2_ f3_; have f4_ := f1_.symm; have f5_ := f3_.symm; clear f1_ f2_ f3_; subst f4_; subst f5_))
      refine hK.out _ _ ⟨(blk_cell BK176.out 0).trans rfl, (blk_cell BK176.out 1).trans rfl, (blk_cell BK176.out 2).trans rfl, (blk_cell BK176.out 3).trans rfl, (blk_cell BK176.out 4).trans rfl, (blk_cell BK174.out 0).trans rfl, (blk_cell BK174.out 1).trans rfl, (blk_cell BK174.out 2).trans rfl, (blk_cell BK174.out 3).trans rfl, (blk_cell BK174.out 4).trans rfl, ((HB.out.cell (World.block_lt_of_cell? w _ hw177_0)).trans hw177_0), ((HB.out.cell (World.block_lt_of_cell? w _ hw177_1)).trans hw177_1), ((HB.out.cell (World.block_lt_of_cell? w _ hw177_2)).trans hw177_2), ((HB.out.cell (World.block_lt_of_cell? w _ hw177_3)).trans hw177_3), ((HB.out.cell (World.block_lt_of_cell? w _ hw177_4)).trans hw177_4)⟩ (fun hHeld => ?_)
      clear hK K
      refine norm_ (a' := ?_) ?_ ?_
      rotate_left
      ·show Act.put _ (some 28) _ = _
       simp only [Act.put, List.setIfInBounds_toArray, List.set_cons_zero, List.set_cons_succ, i64_w, i32_w]
       rfl
      refine pure_ (i := 10) (N := some 29) (v := ?_) (a' := ?_) #[true, true, true, true, true, true, true, true, true, true, true, false] rfl rfl (any_of HT_.out (by kernel_rfl)) (fun _ _ _ h => h) (Or.inl ⟨by rfl, ?_⟩) ?_ ?_
      rotate_left
      ·intro w'
       go_simp
       with_reducible rfl
      rotate_left
      ·simp only [Act.put, List.setIfInBounds_toArray, List.set_cons_zero, List.set_cons_succ, i64_w, i32_w]
       rfl
      refine last_ (i := 11) (N := none) #[true, true, true, true, true, true, true, true, true, true, true, true] rfl rfl (one_of HT_.out (by kernel_rfl)) (by decide) (fun K hK => ?_)
      have hs22 : w19.cell? ⟨gb176, 4, none⟩ = some (u177004) := (blk_cell BK176.out 4).trans rfl
      have hfs22 := blk_frozen BK176.out 4
      have hns22_0 := NB174_176.out
      have hns22_1 := NB175_176.out
      have hms22_0 := NB176_174.out
      have hms22_1 := NB176_175.out
      refine skip_ (w1 := ?_) (by rfl) rfl ?_ ?_
      rotate_left
      ·go_simp
       rfl
      refine hK.out _ _ ?_
      clear hK K
      refine done_ (done_of HT_.out (by kernel_rfl)) ?_
      try go_wp2
      go_roundg k1
      case measure => have := HK1.out; omega
      case rel => exact ⟨(wrap64 (x4_1 + 1)), (y185), (.slice Ao21 y185.length co21), (by first|rfl|(simp; done)|(simp [*]; done)), H', ⟨by have := HK1.out; omega⟩, ⟨by (with_reducible repeat (first|apply Kd.R_alloc|apply Kd.R_drewN|apply Kd.R_drew)); exact Kd.R_mono (Kd.R_far (p := ⟨gb176, 4, none⟩) (Kd.R_mono HO187.out (fun k_ hk => (⟨hk, hk.2.2⟩ : _ ∧ k_ ≠ gb176))) (fun _ hk => hk.2) (.slice Ao21 y185.length co21)) (fun _ hk => ⟨hk.1.1, ⟨hk.1.2.1, hk.1.2.2⟩⟩)⟩, ⟨by (with_reducible repeat (first|refine blk_drewN ?_ _|refine blk_drew ?_|refine blk_alloc ?_ _)); refine blk_far ?_ NB174_176.out _; (with_reducible repeat (first|refine blk_drewN ?_ _|refine blk_drew ?_|refine blk_alloc ?_ _)); exact BK174.out⟩, ⟨by (with_reducible repeat (first|refine blk_drewN ?_ _|refine blk_drew ?_|refine blk_alloc ?_ _)); refine blk_far ?_ NB175_176.out _; (with_reducible repeat (first|refine blk_drewN ?_ _|refine blk_drew ?_|refine blk_alloc ?_ _)); exact BK175.out⟩, ⟨by (with_reducible repeat (first|refine blk_drewN ?_ _|refine blk_drew ?_|refine blk_alloc ?_ _)); refine blk_put (cs := #[.int .i64 a0_0, .string a0_1, .int .i64 a0_2, .int .i64 0, u177004]) ?_ 4 _ rfl; (with_reducible repeat (first|refine blk_drewN ?_ _|refine blk_drew ?_|refine blk_alloc ?_ _)); exact BK176.out⟩, ⟨by repeat (first|(with_reducible first|exact HB.out|apply below_alloc|apply pw_below_drewN|apply below_drew1|refine below_set ?_ GE174.out|refine below_set ?_ GE175.out|refine below_set ?_ GE176.out)|exact HB.out)⟩⟩
     ·rw [if_neg c13] at H
      exact absurd H (by simp)
    ·rw [if_neg c11] at H
     exact absurd H (by simp)
   ·rw [if_neg c10] at H
    have c10b0 : decide (x4_1 < (l0_4.length : Int)) = false := decide_eq_false c10
    clear c10
    simp only [Option.some.injEq, Prod.mk.injEq] at H
    obtain ⟨rfl, rfl, rfl, rfl, rfl⟩ := H
    have hnb23 := NB174_175.out
    have hnc23 := NB175_174.out
    have hnb24 := NB174_176.out
    have hnc24 := NB176_174.out
    have hcz25_0 : wr.cell? ⟨gb174, 0, none⟩ = some (.int .i64 a0_0) := (blk_cell BK174.out 0).trans rfl
    have hcz25_1 : wr.cell? ⟨gb174, 1, none⟩ = some (.string a0_1) := (blk_cell BK174.out 1).trans rfl
    have hcz25_2 : wr.cell? ⟨gb174, 2, none⟩ = some (.int .i64 a0_2) := (blk_cell BK174.out 2).trans rfl
    have hcz25_3 : wr.cell? ⟨gb174, 3, none⟩ = some (.int .i64 a0_3) := (blk_cell BK174.out 3).trans rfl
    have hcz25_4 : wr.cell? ⟨gb174, 4, none⟩ = some (.slice A0_4 l0_4.length c0_4) := (blk_cell BK174.out 4).trans rfl
    have hfz25_0 := blk_frozen BK174.out 0
    have hfz25_1 := blk_frozen BK174.out 1
    have hfz25_2 := blk_frozen BK174.out 2
    have hfz25_3 := blk_frozen BK174.out 3
    have hfz25_4 := blk_frozen BK174.out 4
    have hnb26 := NB176_175.out
    have hnc26 := NB175_176.out
    have hcz27_0 : wr.cell? ⟨gb176, 0, none⟩ = some (.int .i64 a0_0) := (blk_cell BK176.out 0).trans rfl
    have hcz27_1 : wr.cell? ⟨gb176, 1, none⟩ = some (.string a0_1) := (blk_cell BK176.out 1).trans rfl
    have hcz27_2 : wr.cell? ⟨gb176, 2, none⟩ = some (.int .i64 a0_2) := (blk_cell BK176.out 2).trans rfl
    have hcz27_3 : wr.cell? ⟨gb176, 3, none⟩ = some (.int .i64 0) := (blk_cell BK176.out 3).trans rfl
    have hcz27_4 : wr.cell? ⟨gb176, 4, none⟩ = some (u177004) := (blk_cell BK176.out 4).trans rfl
    have hfz27_0 := blk_frozen BK176.out 0
    have hfz27_1 := blk_frozen BK176.out 1
    have hfz27_2 := blk_frozen BK176.out 2
    have hfz27_3 := blk_frozen BK176.out 3
    have hfz27_4 := blk_frozen BK176.out 4
    have hcz28_0 : wr.cell? ⟨gb175, 0, none⟩ = some (.int .i64 0) := (blk_cell BK175.out 0).trans rfl
    have hcz28_1 : wr.cell? ⟨gb175, 1, none⟩ = some (.string (⟨#[]⟩ : ByteArray)) := (blk_cell BK175.out 1).trans rfl
    have hcz28_2 : wr.cell? ⟨gb175, 2, none⟩ = some (.int .i64 0) := (blk_cell BK175.out 2).trans rfl
    have hcz28_3 : wr.cell? ⟨gb175, 3, none⟩ = some (.int .i64 0) := (blk_cell BK175.out 3).trans rfl
    have hcz28_4 : wr.cell? ⟨gb175, 4, none⟩ = some (.slice none 0 0) := (blk_cell BK175.out 4).trans rfl
    have hfz28_0 := blk_frozen BK175.out 0
    have hfz28_1 := blk_frozen BK175.out 1
    have hfz28_2 := blk_frozen BK175.out 2
    have hfz28_3 := blk_frozen BK175.out 3
    have hfz28_4 := blk_frozen BK175.out 4
    obtain ⟨Ao29, co29, eo29⟩ := Kd.R_slice HO_177004.out
    subst eo29
    go_wp2
    refine bodyPost_ret (results_cell_row rfl _ _ gb175 24 #[.int .i64 a0_0, .string a0_1, .int .i64 a0_2, .int .i64 0, .slice Ao29 x177004_1.length co29] (0, 0) _ rfl (by (with_reducible repeat (first|refine blk_drewN ?_ _|refine blk_drew ?_|refine blk_alloc ?_ _)); refine blk_put (cs := #[.int .i64 a0_0, .string a0_1, .int .i64 a0_2, .int .i64 0, .slice none 0 0]) ?_ 4 _ rfl; (with_reducible repeat (first|refine blk_drewN ?_ _|refine blk_drew ?_|refine blk_alloc ?_ _)); refine blk_put (cs := #[.int .i64 a0_0, .string a0_1, .int .i64 a0_2, .int .i64 0, .slice none 0 0]) ?_ 3 _ rfl; (with_reducible repeat (first|refine blk_drewN ?_ _|refine blk_drew ?_|refine blk_alloc ?_ _)); refine blk_put (cs := #[.int .i64 a0_0, .string a0_1, .int .i64 0, .int .i64 0, .slice none 0 0]) ?_ 2 _ rfl; (with_reducible repeat (first|refine blk_drewN ?_ _|refine blk_drew ?_|refine blk_alloc ?_ _)); refine blk_put (cs := #[.int .i64 a0_0, .string (⟨#[]⟩ : ByteArray), .int .i64 0, .int .i64 0, .slice none 0 0]) ?_ 1 _ rfl; (with_reducible repeat (first|refine blk_drewN ?_ _|refine blk_drew ?_|refine blk_alloc ?_ _)); refine blk_put (cs := #[.int .i64 0, .string (⟨#[]⟩ : ByteArray), .int .i64 0, .int .i64 0, .slice none 0 0]) ?_ 0 _ rfl; (with_reducible repeat (first|refine blk_drewN ?_ _|refine blk_drew ?_|refine blk_alloc ?_ _)); exact BK175.out) Tryz.underlying24 rfl (by kernel_rfl)) rfl ?_
    exact ⟨_, by first|rfl|(simp [errW_none, errW_some] <;> rfl)|(simp [*, errW_none, errW_some] <;> rfl), by (with_reducible repeat (first|apply Kd.R_alloc|apply Kd.R_drewN|apply Kd.R_drew)); exact Kd.R_mono (Kd.R_far (p := ⟨gb175, 4, none⟩) (Kd.R_far (p := ⟨gb175, 3, none⟩) (Kd.R_far (p := ⟨gb175, 2, none⟩) (Kd.R_far (p := ⟨gb175, 1, none⟩) (Kd.R_far (p := ⟨gb175, 0, none⟩) (Kd.R_mono HO_177004.out (fun k_ hk => (⟨hk, hk.2.1⟩ : _ ∧ k_ ≠ gb175))) (fun _ hk => hk.2) (.int .i64 a0_0)) (fun _ hk => hk.2) (.string a0_1)) (fun _ hk => hk.2) (.int .i64 a0_2)) (fun _ hk => hk.2) (.int .i64 0)) (fun _ hk => hk.2) (.slice Ao29 x177004_1.length co29)) (fun _ hk => trivial), by repeat (first|(with_reducible first|exact HB.out|apply below_alloc|apply pw_below_drewN|apply below_drew1|refine below_set ?_ GE174.out|refine below_set ?_ GE175.out|refine below_set ?_ GE176.out)|exact HB.out)⟩

end Go.Proofs.YthdkjfhpbigdpaaGreatDoor.Q

namespace Go.Proofs.YthdkjfhpbigdpaaGreatDoor.Q
open Go.RowKit Go.Proofs.YthdkjfhpbigdpaaGreatDoorW.PrintWords Go.Proofs.YthdkjfhpbigdpaaGreatDoorW.PrintLast Go.Proofs.YthdkjfhpbigdpaaGreatDoorW.PrintMore
attribute [local go_sem] max2_int min2_int max_two min_two max_three min_three max_four min_four
set_option linter.unusedVariables false
set_option linter.unusedSimpArgs false

mutual
def gossamerref02_few.j0 : Nat → Int → Int → Bool → Int → ByteArray → Int → Int → List (S24) → Option (Int)
 | 0, _, _, _, _, _, _, _, _ => none
 | k + 1, x1, x2, x13, x102000, x102001, x102002, x102003, x102004 => if x13 = true then (some (-1)) else (gossamerref02_few.l0 k (wrap64 (x1 - 1)) x2 0 x102000 x102001 x102002 x102003 x102004)
def gossamerref02_few.l0 : Nat → Int → Int → Int → Int → ByteArray → Int → Int → List (S24) → Option (Int)
 | 0, _, _, _, _, _, _, _, _ => none
 | k + 1, x1, x2, x7, x102000, x102001, x102002, x102003, x102004 => if x7 < (x102004.length : Int) then (if 0 ≤ x7 then ((gossamerref02_few.f k ((rd_T24 x102004 x7).f0) ((rd_T24 x102004 x7).f1) ((rd_T24 x102004 x7).f2) ((rd_T24 x102004 x7).f3) ((rd_T24 x102004 x7).f4) x1 (wrap64 (x2 - 1))).bind fun t103 => (if t103 < 0 then (some (-1)) else (gossamerref02_few.l0 k t103 x2 (wrap64 (x7 + 1)) x102000 x102001 x102002 x102003 x102004))) else (none)) else (some x1)
def gossamerref02_few.f : Nat → Int → ByteArray → Int → Int → List (S24) → Int → Int → Option (Int)
 | 0, _, _, _, _, _, _, _ => none
 | k + 1, a0_0, a0_1, a0_2, a0_3, l0_4, a1, a2 => if a1 < 1 then (gossamerref02_few.j0 k a1 a2 true a0_0 a0_1 a0_2 a0_3 l0_4) else (gossamerref02_few.j0 k a1 a2 (decide (a2 < 1)) a0_0 a0_1 a0_2 a0_3 l0_4)
end
theorem gossamerref02_few.mono_l : ∀ k, (∀ y0 y1 y2 y3 y4 y5 y6, LeO (gossamerref02_few.f k y0 y1 y2 y3 y4 y5 y6) (gossamerref02_few.f (k + 1) y0 y1 y2 y3 y4 y5 y6)) ∧ (∀ y0 y1 y2 y3 y4 y5 y6 y7, LeO (gossamerref02_few.j0 k y0 y1 y2 y3 y4 y5 y6 y7) (gossamerref02_few.j0 (k + 1) y0 y1 y2 y3 y4 y5 y6 y7)) ∧ (∀ y0 y1 y2 y3 y4 y5 y6 y7, LeO (gossamerref02_few.l0 k y0 y1 y2 y3 y4 y5 y6 y7) (gossamerref02_few.l0 (k + 1) y0 y1 y2 y3 y4 y5 y6 y7))
 | 0 => ⟨fun _ _ _ _ _ _ _ r h => by simp [gossamerref02_few.f] at h, fun _ _ _ _ _ _ _ _ r h => by simp [gossamerref02_few.j0] at h, fun _ _ _ _ _ _ _ _ r h => by simp [gossamerref02_few.l0] at h⟩
 | k + 1 => by
  obtain ⟨ih0, ih1, ih2⟩ := gossamerref02_few.mono_l k
  refine ⟨?_, ?_, ?_⟩
  ·intro y0 y1 y2 y3 y4 y5 y6
   unfold gossamerref02_few.f
   repeat' first
  |(with_reducible exact ih0 _ _ _ _ _ _ _)
  |(with_reducible exact ih1 _ _ _ _ _ _ _ _)
  |(with_reducible exact ih2 _ _ _ _ _ _ _ _)
  |(with_reducible exact LeO.refl _)
  |(with_reducible exact LeO.none _)
  |(with_reducible refine LeO.ite ?_ ?_)
  |(with_reducible refine LeO.bind ?_ (fun _ => ?_))
  |exact ih0 _ _ _ _ _ _ _
  |exact ih1 _ _ _ _ _ _ _ _
  |exact ih2 _ _ _ _ _ _ _ _
  |exact LeO.none _
  |refine LeO.ite ?_ ?_
  |refine LeO.bind ?_ (fun _ => ?_)
  ·intro y0 y1 y2 y3 y4 y5 y6 y7
   unfold gossamerref02_few.j0
   repeat' first
  |(with_reducible exact ih0 _ _ _ _ _ _ _)
  |(with_reducible exact ih1 _ _ _ _ _ _ _ _)
  |(with_reducible exact ih2 _ _ _ _ _ _ _ _)
  |(with_reducible exact LeO.refl _)
  |(with_reducible exact LeO.none _)
  |(with_reducible refine LeO.ite ?_ ?_)
  |(with_reducible refine LeO.bind ?_ (fun _ => ?_))
  |exact ih0 _ _ _ _ _ _ _
  |exact ih1 _ _ _ _ _ _ _ _
  |exact ih2 _ _ _ _ _ _ _ _
  |exact LeO.none _
  |refine LeO.ite ?_ ?_
  |refine LeO.bind ?_ (fun _ => ?_)
  ·intro y0 y1 y2 y3 y4 y5 y6 y7
   unfold gossamerref02_few.l0
   repeat' first
  |(with_reducible exact ih0 _ _ _ _ _ _ _)
  |(with_reducible exact ih1 _ _ _ _ _ _ _ _)
  |(with_reducible exact ih2 _ _ _ _ _ _ _ _)
  |(with_reducible exact LeO.refl _)
  |(with_reducible exact LeO.none _)
  |(with_reducible refine LeO.ite ?_ ?_)
  |(with_reducible refine LeO.bind ?_ (fun _ => ?_))
  |exact ih0 _ _ _ _ _ _ _
  |exact ih1 _ _ _ _ _ _ _ _
  |exact ih2 _ _ _ _ _ _ _ _
  |exact LeO.none _
  |refine LeO.ite ?_ ?_
  |refine LeO.bind ?_ (fun _ => ?_)
theorem gossamerref02_few.mono : ∀ a0 a1 a2 a3 a4 a5 a6 k, LeO (gossamerref02_few.f k a0 a1 a2 a3 a4 a5 a6) (gossamerref02_few.f (k + 1) a0 a1 a2 a3 a4 a5 a6) := by
 intro a0 a1 a2 a3 a4 a5 a6 k
 obtain ⟨ih0, ih1, ih2⟩ := gossamerref02_few.mono_l k
 exact ih0 a0 a1 a2 a3 a4 a5 a6
set_option maxHeartbeats 8000000 in
set_option maxRecDepth 100000 in
theorem gossamerref02_few.calls (k : Nat) : ∀ (a0_0 : Int) (a0_1 : ByteArray) (a0_2 : Int) (a0_3 : Int) (A0_4 : Option Addr) (c0_4 : Nat) (l0_4 : List (S24)) (a1 : Int) (a2 : Int) (r : Int) (w : World) (hr0_4 : Kd.C k24 w A0_4 l0_4.length l0_4) (hc0_4 : l0_4.length ≤ c0_4) (h : gossamerref02_few.f k a0_0 a0_1 a0_2 a0_3 l0_4 a1 a2 = some r),
  Calls Tryz.prog 15 #[.agg #[.int .i64 a0_0, .string a0_1, .int .i64 a0_2, .int .i64 a0_3, .slice A0_4 l0_4.length c0_4], .int .i64 a1, .int .i64 a2] w fun e w' => e = .returned (.int .i64 r) ∧ Below w.heap.size w w' := by
 induction k using Nat.strongRecOn with
 | _ k ih =>
 intro a0_0 a0_1 a0_2 a0_3 A0_4 c0_4 l0_4 a1 a2 r w hr0_4 hc0_4 h
 cases k with
 | zero => exact absurd h (by simp [gossamerref02_few.f])
 | succ k =>
 simp only [gossamerref02_few.f] at h
 have hu24 := Tryz.underlying24
 have HR0_4 := Aside0.mk hr0_4
 have HC0_4 := Aside0.mk hc0_4
 clear hr0_4 hc0_4
 have HB := Aside0.mk (Below.refl w.heap.size w)
 have H : (if a1 < 1 then (gossamerref02_few.j0 k a1 a2 true a0_0 a0_1 a0_2 a0_3 l0_4) else (gossamerref02_few.j0 k a1 a2 (decide (a2 < 1)) a0_0 a0_1 a0_2 a0_3 l0_4)) = some r := h
 clear h
 have HC4 := Aside0.mk H
 clear H
 go_enter Tryz.func15, Tryz.ntmps15
 go_upto_region 1 with (first|((with_reducible refine gate_dst (N := 3) rfl ?_); refine box_event ?hg (N := 3) ?hd (cs := #[.int .i64 a0_0, .string a0_1, .int .i64 a0_2, .int .i64 a0_3, .slice A0_4 l0_4.length c0_4]) (t := 24) ?hr ?_; (case hd => rfl); (case hg => rfl); (case hr => first|(go_simp; done)|(go_simp; rfl)); intro gb101 hg w5 hbox hb; have n0_ := Aside0.mk (below_step (by repeat (first|(with_reducible first|exact HB.out|apply below_alloc|apply pw_below_drewN|apply below_drew1)|exact HB.out)) hb); have n1_ := Aside0.mk (hbox); have n2_ := Aside0.mk ((by rw [hg]; exact (below_size (by repeat (first|(with_reducible first|exact HB.out|apply below_alloc|apply pw_below_drewN|apply below_drew1)|exact HB.out))) : w.heap.size ≤ gb101)); have n3_ := Aside0.mk ((by rw [hg]; exact (below_size (by repeat (first|(with_reducible first|exact HB.out|apply below_alloc|apply pw_below_drewN|apply below_drew1)|exact HB.out))) : w.heap.size ≤ gb101)); clear HB; have HB := n0_; have BK101 := n1_; have GW101 := n2_; have GE101 := n3_; clear n0_ n1_ n2_ n3_; clear hb hbox hg))
 (try simp only [Act.put, List.setIfInBounds_toArray, List.set_cons_zero, List.set_cons_succ])
 go_cut [13] (fun v13 wc => ∃ (kq : Nat) (x13_3 : Bool), v13 = .bool x13_3 ∧ Aside0 (gossamerref02_few.j0 kq a1 a2 x13_3 a0_0 a0_1 a0_2 a0_3 l0_4 = some r) ∧ Aside0 (kq ≤ k) ∧ Aside0 (wc.heap[gb101]? = some (.cells #[.int .i64 a0_0, .string a0_1, .int .i64 a0_2, .int .i64 a0_3, (.slice A0_4 l0_4.length c0_4)] 24 (0, 0))) ∧ Aside0 (Below w.heap.size w wc))
 case first =>
  have H := HC4.out
  clear HC4
  by_cases c6 : a1 < 1
  ·rw [if_pos c6] at H
   have c6b0 : decide (a1 < 1) = true := decide_eq_true c6
   clear c6
   (first|rw [c6b0]|(simp only [i64_w, i32_w]; rw [c6b0]) | skip)
   have H' := Aside0.mk H
   clear H
   go_wp2
   go_meet
   case rel => exact ⟨_, (true), (by first|rfl|(simp; done)|(simp [*]; done)), H', ⟨by first | omega|exact Nat.le_refl _⟩, ⟨by (with_reducible repeat (first|refine blk_drewN ?_ _|refine blk_drew ?_|refine blk_alloc ?_ _)); exact BK101.out⟩, ⟨by repeat (first|(with_reducible first|exact HB.out|apply below_alloc|apply pw_below_drewN|apply below_drew1|refine below_set ?_ GE101.out)|exact HB.out)⟩⟩
  ·rw [if_neg c6] at H
   have c6b0 : decide (a1 < 1) = false := decide_eq_false c6
   clear c6
   (first|rw [c6b0]|(simp only [i64_w, i32_w]; rw [c6b0]) | skip)
   have H' := Aside0.mk H
   clear H
   go_wp2
   go_meet
   case rel => exact ⟨_, (decide (a2 < 1)), (by first|rfl|(simp; done)|(simp [*]; done)), H', ⟨by first | omega|exact Nat.le_refl _⟩, ⟨by (with_reducible repeat (first|refine blk_drewN ?_ _|refine blk_drew ?_|refine blk_alloc ?_ _)); exact BK101.out⟩, ⟨by repeat (first|(with_reducible first|exact HB.out|apply below_alloc|apply pw_below_drewN|apply below_drew1|refine below_set ?_ GE101.out)|exact HB.out)⟩⟩
 case rest =>
  clear HC4
  try clear c1
  try clear p2
  try clear c6
  try clear c6b0
  obtain ⟨kq, x13_3, rfl, HA, HJ3, BK101, HB⟩ := hcut
  cases kq with
  | zero => exact absurd HA.out (by simp [gossamerref02_few.j0])
  | succ kj3 =>
   have H := HA.out
   clear HA
   simp only [gossamerref02_few.j0] at H
   by_cases c7 : x13_3 = true
   ·subst c7
    have H1 : (some (-1)) = some r := by rw [if_pos rfl] at H; exact H
    clear H
    have H := H1
    clear H1
    obtain rfl := Option.some.inj H
    go_wp2
    go_ret
    exact ⟨by first|rfl|(simp [errW_none, errW_some] <;> rfl)|(simp [*, errW_none, errW_some] <;> rfl), by repeat (first|(with_reducible first|exact HB.out|apply below_alloc|apply pw_below_drewN|apply below_drew1|refine below_set ?_ GE101.out)|exact HB.out)⟩
   ·replace c7 := Bool.eq_false_iff.mpr c7
    subst c7
    have H1 : (gossamerref02_few.l0 kj3 (wrap64 (a1 - 1)) a2 0 a0_0 a0_1 a0_2 a0_3 l0_4) = some r := by rw [if_neg (show ¬ (false = true) by decide)] at H; exact H
    clear H
    have H := H1
    clear H1
    have H' := Aside0.mk H
    clear H
    go_wp2
    go_loopg [1, 7] kj3 (fun kq v1 v7 w' => ∃ (x1_2 : Int) (x7_2 : Int), v1 = .int .i64 x1_2 ∧ v7 = .int .i64 x7_2 ∧ Aside0 (gossamerref02_few.l0 kq x1_2 a2 x7_2 a0_0 a0_1 a0_2 a0_3 l0_4 = some r) ∧ Aside0 (kq ≤ kj3) ∧ Aside0 (w'.heap[gb101]? = some (.cells #[.int .i64 a0_0, .string a0_1, .int .i64 a0_2, .int .i64 a0_3, (.slice A0_4 l0_4.length c0_4)] 24 (0, 0))) ∧ Aside0 (Below w.heap.size w w'))
    case atStart => exact ⟨(wrap64 (a1 - 1)), (0), (by first|rfl|(simp; done)|(simp [*]; done)), (by first|rfl|(simp; done)|(simp [*]; done)), H', ⟨Nat.le_refl _⟩, ⟨by (with_reducible repeat (first|refine blk_drewN ?_ _|refine blk_drew ?_|refine blk_alloc ?_ _)); exact BK101.out⟩, ⟨by repeat (first|(with_reducible first|exact HB.out|apply below_alloc|apply pw_below_drewN|apply below_drew1|refine below_set ?_ GE101.out)|exact HB.out)⟩⟩
    case round =>
     clear H'
     try clear c1
     try clear p2
     try clear c6
     try clear c6b0
     try clear p6
     try clear c7
     try clear p2
     obtain ⟨x1_2, x7_2, rfl, rfl, HA, HK2, BK101, HB⟩ := hrel
     cases gk with
     | zero => exact absurd HA.out (by simp [gossamerref02_few.l0])
     | succ k2 =>
      have H := HA.out
      clear HA
      simp only [gossamerref02_few.l0] at H
      by_cases c8 : x7_2 < (l0_4.length : Int)
      ·rw [if_pos c8] at H
       have c8b0 : decide (x7_2 < (l0_4.length : Int)) = true := decide_eq_true c8
       clear c8
       by_cases c9 : 0 ≤ x7_2
       ·rw [if_pos c9] at H
        have c9b0 : decide (0 ≤ x7_2) = true := decide_eq_true c9
        clear c9
        replace H := Option.bind_eq_some_iff.mp H
        obtain ⟨t103, A100, H⟩ := H
        replace H : (if t103 < 0 then (some (-1)) else (gossamerref02_few.l0 k2 t103 a2 (wrap64 (x7_2 + 1)) a0_0 a0_1 a0_2 a0_3 l0_4)) = some r := H
        have A10 := Aside0.mk A100
        clear A100
        by_cases c11 : t103 < 0
        ·rw [if_pos c11] at H
         have c11b0 : decide (t103 < 0) = true := decide_eq_true c11
         clear c11
         obtain rfl := Option.some.inj H
         have hcz12_0 : wr.cell? ⟨gb101, 0, none⟩ = some (.int .i64 a0_0) := (blk_cell BK101.out 0).trans rfl
         have hcz12_1 : wr.cell? ⟨gb101, 1, none⟩ = some (.string a0_1) := (blk_cell BK101.out 1).trans rfl
         have hcz12_2 : wr.cell? ⟨gb101, 2, none⟩ = some (.int .i64 a0_2) := (blk_cell BK101.out 2).trans rfl
         have hcz12_3 : wr.cell? ⟨gb101, 3, none⟩ = some (.int .i64 a0_3) := (blk_cell BK101.out 3).trans rfl
         have hcz12_4 : wr.cell? ⟨gb101, 4, none⟩ = some (.slice A0_4 l0_4.length c0_4) := (blk_cell BK101.out 4).trans rfl
         have hfz12_0 := blk_frozen BK101.out 0
         have hfz12_1 := blk_frozen BK101.out 1
         have hfz12_2 := blk_frozen BK101.out 2
         have hfz12_3 := blk_frozen BK101.out 3
         have hfz12_4 := blk_frozen BK101.out 4
         have p102 : 0 ≤ (x7_2 : Int) := of_decide_eq_true (by first|(with_reducible assumption) | assumption)
         have q102 : x7_2 < (l0_4.length : Int) := of_decide_eq_true (by first|(with_reducible assumption) | assumption)
         obtain ⟨ad102, A102_4, c102_4, e102, hx102_0, hx102_1, hx102_2, hx102_3, hx102_4, hl102_4, hi102_4⟩ := at_T24 HR0_4.out x7_2 p102 q102
         cases e102
         replace hx102_0 := (HB.out.cell (World.block_lt_of_cell? w _ hx102_0)).trans hx102_0
         replace hx102_1 := (HB.out.cell (World.block_lt_of_cell? w _ hx102_1)).trans hx102_1
         replace hx102_2 := (HB.out.cell (World.block_lt_of_cell? w _ hx102_2)).trans hx102_2
         replace hx102_3 := (HB.out.cell (World.block_lt_of_cell? w _ hx102_3)).trans hx102_3
         replace hx102_4 := (HB.out.cell (World.block_lt_of_cell? w _ hx102_4)).trans hx102_4
         have HR102_4 := Aside0.mk hi102_4
         have HC102_4 := Aside0.mk hl102_4
         clear hi102_4 hl102_4
         replace p102 := eq_true p102
         replace q102 := eq_true q102
         go_wp2_with (first|((with_reducible refine gate_callee (f := 15) rfl ?_); refine goesL_ (some 31) rfl rfl Tryz.func15 (by kernel_rfl) rfl #[.agg #[.int .i64 ((rd_T24 l0_4 x7_2).f0), .string ((rd_T24 l0_4 x7_2).f1), .int .i64 ((rd_T24 l0_4 x7_2).f2), .int .i64 ((rd_T24 l0_4 x7_2).f3), .slice A102_4 ((rd_T24 l0_4 x7_2).f4).length c102_4], .int .i64 x1_2, .int .i64 (wrap64 (a2 - 1))] rfl (by (try simp only [List.map_toArray, List.map_cons, List.map_nil]); first|done|rfl|(simp only [List.length_drop, List.length_take]; rfl)) ?_; (with_reducible refine (ih k2 (by have := HJ3.out; have := HK2.out; omega) ((rd_T24 l0_4 x7_2).f0) ((rd_T24 l0_4 x7_2).f1) ((rd_T24 l0_4 x7_2).f2) ((rd_T24 l0_4 x7_2).f3) _ _ ((rd_T24 l0_4 x7_2).f4) x1_2 (wrap64 (a2 - 1)) t103 _ ?side1 ?side2 A10.out).mono ?_); (case side1 => repeat (first|exact (Kd.C_below HR102_4.out HB.out)|(with_reducible refine Kd.C_alloc ?_ _)|(with_reducible refine Kd.C_drewN ?_ _)|(with_reducible refine Kd.C_drew ?_))); (case side2 => exact HC102_4.out); rintro e w13 ⟨rfl, hb⟩; refine ⟨_, rfl, ?_⟩; have n0_ := Aside0.mk (blk_below (g := gb101) (o := .cells #[.int .i64 a0_0, .string a0_1, .int .i64 a0_2, .int .i64 a0_3, .slice (some ad102) l0_4.length c0_4] 24 (0, 0)) (by (with_reducible repeat (first|refine blk_drewN ?_ _|refine blk_drew ?_|refine blk_alloc ?_ _)); exact BK101.out) hb); have n1_ := Aside0.mk (below_step (by repeat (first|(with_reducible first|exact HB.out|apply below_alloc|apply pw_below_drewN|apply below_drew1|refine below_set ?_ GE101.out)|exact HB.out)) hb); clear BK101; clear HB; have BK101 := n0_; have HB := n1_; clear n0_ n1_; (try clear hb); (try clear hb2); (try clear hk); (try clear hi)))
         go_ret
         exact ⟨by first|rfl|(simp [errW_none, errW_some] <;> rfl)|(simp [*, errW_none, errW_some] <;> rfl), by repeat (first|(with_reducible first|exact HB.out|apply below_alloc|apply pw_below_drewN|apply below_drew1|refine below_set ?_ GE101.out)|exact HB.out)⟩
        ·rw [if_neg c11] at H
         have c11b0 : decide (t103 < 0) = false := decide_eq_false c11
         clear c11
         have H' := Aside0.mk H
         clear H
         have hcz14_0 : wr.cell? ⟨gb101, 0, none⟩ = some (.int .i64 a0_0) := (blk_cell BK101.out 0).trans rfl
         have hcz14_1 : wr.cell? ⟨gb101, 1, none⟩ = some (.string a0_1) := (blk_cell BK101.out 1).trans rfl
         have hcz14_2 : wr.cell? ⟨gb101, 2, none⟩ = some (.int .i64 a0_2) := (blk_cell BK101.out 2).trans rfl
         have hcz14_3 : wr.cell? ⟨gb101, 3, none⟩ = some (.int .i64 a0_3) := (blk_cell BK101.out 3).trans rfl
         have hcz14_4 : wr.cell? ⟨gb101, 4, none⟩ = some (.slice A0_4 l0_4.length c0_4) := (blk_cell BK101.out 4).trans rfl
         have hfz14_0 := blk_frozen BK101.out 0
         have hfz14_1 := blk_frozen BK101.out 1
         have hfz14_2 := blk_frozen BK101.out 2
         have hfz14_3 := blk_frozen BK101.out 3
         have hfz14_4 := blk_frozen BK101.out 4
         have p102 : 0 ≤ (x7_2 : Int) := of_decide_eq_true (by first|(with_reducible assumption) | assumption)
         have q102 : x7_2 < (l0_4.length : Int) := of_decide_eq_true (by first|(with_reducible assumption) | assumption)
         obtain ⟨ad102, A102_4, c102_4, e102, hx102_0, hx102_1, hx102_2, hx102_3, hx102_4, hl102_4, hi102_4⟩ := at_T24 HR0_4.out x7_2 p102 q102
         cases e102
         replace hx102_0 := (HB.out.cell (World.block_lt_of_cell? w _ hx102_0)).trans hx102_0
         replace hx102_1 := (HB.out.cell (World.block_lt_of_cell? w _ hx102_1)).trans hx102_1
         replace hx102_2 := (HB.out.cell (World.block_lt_of_cell? w _ hx102_2)).trans hx102_2
         replace hx102_3 := (HB.out.cell (World.block_lt_of_cell? w _ hx102_3)).trans hx102_3
         replace hx102_4 := (HB.out.cell (World.block_lt_of_cell? w _ hx102_4)).trans hx102_4
         have HR102_4 := Aside0.mk hi102_4
         have HC102_4 := Aside0.mk hl102_4
         clear hi102_4 hl102_4
         replace p102 := eq_true p102
         replace q102 := eq_true q102
         go_wp2_with (first|((with_reducible refine gate_callee (f := 15) rfl ?_); refine goesL_ (some 31) rfl rfl Tryz.func15 (by kernel_rfl) rfl #[.agg #[.int .i64 ((rd_T24 l0_4 x7_2).f0), .string ((rd_T24 l0_4 x7_2).f1), .int .i64 ((rd_T24 l0_4 x7_2).f2), .int .i64 ((rd_T24 l0_4 x7_2).f3), .slice A102_4 ((rd_T24 l0_4 x7_2).f4).length c102_4], .int .i64 x1_2, .int .i64 (wrap64 (a2 - 1))] rfl (by (try simp only [List.map_toArray, List.map_cons, List.map_nil]); first|done|rfl|(simp only [List.length_drop, List.length_take]; rfl)) ?_; (with_reducible refine (ih k2 (by have := HJ3.out; have := HK2.out; omega) ((rd_T24 l0_4 x7_2).f0) ((rd_T24 l0_4 x7_2).f1) ((rd_T24 l0_4 x7_2).f2) ((rd_T24 l0_4 x7_2).f3) _ _ ((rd_T24 l0_4 x7_2).f4) x1_2 (wrap64 (a2 - 1)) t103 _ ?side1 ?side2 A10.out).mono ?_); (case side1 => repeat (first|exact (Kd.C_below HR102_4.out HB.out)|(with_reducible refine Kd.C_alloc ?_ _)|(with_reducible refine Kd.C_drewN ?_ _)|(with_reducible refine Kd.C_drew ?_))); (case side2 => exact HC102_4.out); rintro e w15 ⟨rfl, hb⟩; refine ⟨_, rfl, ?_⟩; have n0_ := Aside0.mk (blk_below (g := gb101) (o := .cells #[.int .i64 a0_0, .string a0_1, .int .i64 a0_2, .int .i64 a0_3, .slice (some ad102) l0_4.length c0_4] 24 (0, 0)) (by (with_reducible repeat (first|refine blk_drewN ?_ _|refine blk_drew ?_|refine blk_alloc ?_ _)); exact BK101.out) hb); have n1_ := Aside0.mk (below_step (by repeat (first|(with_reducible first|exact HB.out|apply below_alloc|apply pw_below_drewN|apply below_drew1|refine below_set ?_ GE101.out)|exact HB.out)) hb); clear BK101; clear HB; have BK101 := n0_; have HB := n1_; clear n0_ n1_; (try clear hb); (try clear hb2); (try clear hk); (try clear hi)))
         go_roundg k2
         case measure => have := HJ3.out; have := HK2.out; omega
         case rel => exact ⟨(t103), (wrap64 (x7_2 + 1)), (by first|rfl|(simp; done)|(simp [*]; done)), (by first|rfl|(simp; done)|(simp [*]; done)), H', ⟨by have := HJ3.out; have := HK2.out; omega⟩, ⟨by (with_reducible repeat (first|refine blk_drewN ?_ _|refine blk_drew ?_|refine blk_alloc ?_ _)); exact BK101.out⟩, ⟨by repeat (first|(with_reducible first|exact HB.out|apply below_alloc|apply pw_below_drewN|apply below_drew1|refine below_set ?_ GE101.out)|exact HB.out)⟩⟩
       ·rw [if_neg c9] at H
        exact absurd H (by simp)
      ·rw [if_neg c8] at H
       have c8b0 : decide (x7_2 < (l0_4.length : Int)) = false := decide_eq_false c8
       clear c8
       obtain rfl := Option.some.inj H
       have hcz16_0 : wr.cell? ⟨gb101, 0, none⟩ = some (.int .i64 a0_0) := (blk_cell BK101.out 0).trans rfl
       have hcz16_1 : wr.cell? ⟨gb101, 1, none⟩ = some (.string a0_1) := (blk_cell BK101.out 1).trans rfl
       have hcz16_2 : wr.cell? ⟨gb101, 2, none⟩ = some (.int .i64 a0_2) := (blk_cell BK101.out 2).trans rfl
       have hcz16_3 : wr.cell? ⟨gb101, 3, none⟩ = some (.int .i64 a0_3) := (blk_cell BK101.out 3).trans rfl
       have hcz16_4 : wr.cell? ⟨gb101, 4, none⟩ = some (.slice A0_4 l0_4.length c0_4) := (blk_cell BK101.out 4).trans rfl
       have hfz16_0 := blk_frozen BK101.out 0
       have hfz16_1 := blk_frozen BK101.out 1
       have hfz16_2 := blk_frozen BK101.out 2
       have hfz16_3 := blk_frozen BK101.out 3
       have hfz16_4 := blk_frozen BK101.out 4
       go_wp2
       go_ret
       exact ⟨by first|rfl|(simp [errW_none, errW_some] <;> rfl)|(simp [*, errW_none, errW_some] <;> rfl), by repeat (first|(with_reducible first|exact HB.out|apply below_alloc|apply pw_below_drewN|apply below_drew1|refine below_set ?_ GE101.out)|exact HB.out)⟩

end Go.Proofs.YthdkjfhpbigdpaaGreatDoor.Q

namespace Go.Proofs.YthdkjfhpbigdpaaGreatDoor.Q
open Go.RowKit Go.Proofs.YthdkjfhpbigdpaaGreatDoorW.PrintWords Go.Proofs.YthdkjfhpbigdpaaGreatDoorW.PrintLast Go.Proofs.YthdkjfhpbigdpaaGreatDoorW.PrintMore
attribute [local go_sem] max2_int min2_int max_two min_two max_three min_three max_four min_four
set_option linter.unusedVariables false
set_option linter.unusedSimpArgs false

def gossamerref02_Small.f (k : Nat) (a0_0 : Int) (a0_1 : ByteArray) (a0_2 : Int) (a0_3 : Int) (l0_4 : List (S24)) (a1 : Int) : Option (Bool) := (gossamerref02_few.f k a0_0 a0_1 a0_2 a0_3 l0_4 a1 200).bind fun t105 => (some (decide (t105 ≥ 0)))
theorem gossamerref02_Small.mono : ∀ a0 a1 a2 a3 a4 a5 k, LeO (gossamerref02_Small.f k a0 a1 a2 a3 a4 a5) (gossamerref02_Small.f (k + 1) a0 a1 a2 a3 a4 a5) := by
 intro a0 a1 a2 a3 a4 a5 k
 unfold gossamerref02_Small.f
 repeat' first
  |(with_reducible exact gossamerref02_few.mono _ _ _ _ _ _ _ _)
  |(with_reducible exact LeO.refl _)
  |(with_reducible exact LeO.none _)
  |(with_reducible refine LeO.ite ?_ ?_)
  |(with_reducible refine LeO.bind ?_ (fun _ => ?_))
  |exact gossamerref02_few.mono _ _ _ _ _ _ _ _
  |exact LeO.none _
  |refine LeO.ite ?_ ?_
  |refine LeO.bind ?_ (fun _ => ?_)
set_option maxHeartbeats 8000000 in
set_option maxRecDepth 100000 in
theorem gossamerref02_Small.calls (k : Nat) (a0_0 : Int) (a0_1 : ByteArray) (a0_2 : Int) (a0_3 : Int) (A0_4 : Option Addr) (c0_4 : Nat) (l0_4 : List (S24)) (a1 : Int) (r : Bool) (w : World) (hr0_4 : Kd.C k24 w A0_4 l0_4.length l0_4) (hc0_4 : l0_4.length ≤ c0_4) (h : gossamerref02_Small.f k a0_0 a0_1 a0_2 a0_3 l0_4 a1 = some r) :
  Calls Tryz.prog 4 #[.agg #[.int .i64 a0_0, .string a0_1, .int .i64 a0_2, .int .i64 a0_3, .slice A0_4 l0_4.length c0_4], .int .i64 a1] w fun e w' => e = .returned (.bool r) ∧ Below w.heap.size w w' := by
 have hu24 := Tryz.underlying24
 have HR0_4 := Aside0.mk hr0_4
 have HC0_4 := Aside0.mk hc0_4
 clear hr0_4 hc0_4
 have HB := Aside0.mk (Below.refl w.heap.size w)
 have H : ((gossamerref02_few.f k a0_0 a0_1 a0_2 a0_3 l0_4 a1 200).bind fun t105 => (some (decide (t105 ≥ 0)))) = some r := h
 clear h
 replace H := Option.bind_eq_some_iff.mp H
 obtain ⟨t105, A30, H⟩ := H
 replace H : (some (decide (t105 ≥ 0))) = some r := H
 have A3 := Aside0.mk A30
 clear A30
 obtain rfl := Option.some.inj H
 go_enter Tryz.func4, Tryz.ntmps4
 go_wp2_with (first|((with_reducible refine gate_dst (N := 2) rfl ?_); refine box_event ?hg (N := 2) ?hd (cs := #[.int .i64 a0_0, .string a0_1, .int .i64 a0_2, .int .i64 a0_3, .slice A0_4 l0_4.length c0_4]) (t := 24) ?hr ?_; (case hd => rfl); (case hg => rfl); (case hr => first|(go_simp; done)|(go_simp; rfl)); intro gb104 hg w4 hbox hb; have n0_ := Aside0.mk (below_step (by repeat (first|(with_reducible first|exact HB.out|apply below_alloc|apply pw_below_drewN|apply below_drew1)|exact HB.out)) hb); have n1_ := Aside0.mk (hbox); have n2_ := Aside0.mk ((by rw [hg]; exact (below_size (by repeat (first|(with_reducible first|exact HB.out|apply below_alloc|apply pw_below_drewN|apply below_drew1)|exact HB.out))) : w.heap.size ≤ gb104)); have n3_ := Aside0.mk ((by rw [hg]; exact (below_size (by repeat (first|(with_reducible first|exact HB.out|apply below_alloc|apply pw_below_drewN|apply below_drew1)|exact HB.out))) : w.heap.size ≤ gb104)); clear HB; have HB := n0_; have BK104 := n1_; have GW104 := n2_; have GE104 := n3_; clear n0_ n1_ n2_ n3_; clear hb hbox hg; have hcz5_0 : w4.cell? ⟨gb104, 0, none⟩ = some (.int .i64 a0_0) := (blk_cell BK104.out 0).trans rfl; have hcz5_1 : w4.cell? ⟨gb104, 1, none⟩ = some (.string a0_1) := (blk_cell BK104.out 1).trans rfl; have hcz5_2 : w4.cell? ⟨gb104, 2, none⟩ = some (.int .i64 a0_2) := (blk_cell BK104.out 2).trans rfl; have hcz5_3 : w4.cell? ⟨gb104, 3, none⟩ = some (.int .i64 a0_3) := (blk_cell BK104.out 3).trans rfl; have hcz5_4 : w4.cell? ⟨gb104, 4, none⟩ = some (.slice A0_4 l0_4.length c0_4) := (blk_cell BK104.out 4).trans rfl; have hfz5_0 := blk_frozen BK104.out 0; have hfz5_1 := blk_frozen BK104.out 1; have hfz5_2 := blk_frozen BK104.out 2; have hfz5_3 := blk_frozen BK104.out 3; have hfz5_4 := blk_frozen BK104.out 4) | ((with_reducible refine gate_callee (f := 15) rfl ?_); refine goesL_ (some 7) rfl rfl Tryz.func15 (by kernel_rfl) rfl #[.agg #[.int .i64 a0_0, .string a0_1, .int .i64 a0_2, .int .i64 a0_3, .slice A0_4 l0_4.length c0_4], .int .i64 a1, .int .i64 200] rfl (by (try simp only [List.map_toArray, List.map_cons, List.map_nil]); first|done|rfl|(simp only [List.length_drop, List.length_take]; rfl)) ?_; (with_reducible refine (gossamerref02_few.calls k a0_0 a0_1 a0_2 a0_3 _ _ l0_4 a1 200 t105 _ ?side1 ?side2 A3.out).mono ?_); (case side1 => repeat (first|exact (Kd.C_below HR0_4.out HB.out)|(with_reducible refine Kd.C_alloc ?_ _)|(with_reducible refine Kd.C_drewN ?_ _)|(with_reducible refine Kd.C_drew ?_))); (case side2 => exact HC0_4.out); rintro e w6 ⟨rfl, hb⟩; refine ⟨_, rfl, ?_⟩; have n0_ := Aside0.mk (blk_below (g := gb104) (o := .cells #[.int .i64 a0_0, .string a0_1, .int .i64 a0_2, .int .i64 a0_3, .slice A0_4 l0_4.length c0_4] 24 (0, 0)) (by (with_reducible repeat (first|refine blk_drewN ?_ _|refine blk_drew ?_|refine blk_alloc ?_ _)); exact BK104.out) hb); have n1_ := Aside0.mk (below_step (by repeat (first|(with_reducible first|exact HB.out|apply below_alloc|apply pw_below_drewN|apply below_drew1|refine below_set ?_ GE104.out)|exact HB.out)) hb); clear BK104; clear HB; have BK104 := n0_; have HB := n1_; clear n0_ n1_; (try clear hb); (try clear hb2); (try clear hk); (try clear hi)))
 go_ret
 exact ⟨by first|rfl|(simp [errW_none, errW_some] <;> rfl)|(simp [*, errW_none, errW_some] <;> rfl), by repeat (first|(with_reducible first|exact HB.out|apply below_alloc|apply pw_below_drewN|apply below_drew1|refine below_set ?_ GE104.out)|exact HB.out)⟩

end Go.Proofs.YthdkjfhpbigdpaaGreatDoor.Q

namespace Go.Proofs.YthdkjfhpbigdpaaGreatDoor.Q
open Go.RowKit Go.Proofs.YthdkjfhpbigdpaaGreatDoorW.PrintWords Go.Proofs.YthdkjfhpbigdpaaGreatDoorW.PrintLast Go.Proofs.YthdkjfhpbigdpaaGreatDoorW.PrintMore
attribute [local go_sem] max2_int min2_int max_two min_two max_three min_three max_four min_four
set_option linter.unusedVariables false
set_option linter.unusedSimpArgs false

mutual
def tree_Depth.l0 : Nat → Int → List (S24) → Int → Int → Option (Int)
 | 0, _, _, _, _ => none
 | k + 1, x3, x7, x8, x9 => if x9 < x8 then (if 0 ≤ x9 then (if x9 < (x7.length : Int) then ((tree_Depth.f k ((rd_T24 x7 x9).f0) ((rd_T24 x7 x9).f1) ((rd_T24 x7 x9).f2) ((rd_T24 x7 x9).f3) ((rd_T24 x7 x9).f4)).bind fun t109 => (tree_Depth.l0 k (mx x3 t109) x7 x8 (wrap64 (x9 + 1)))) else (none)) else (none)) else (some (wrap64 (x3 + 1)))
def tree_Depth.f : Nat → Int → ByteArray → Int → Int → List (S24) → Option (Int)
 | 0, _, _, _, _, _ => none
 | k + 1, a0_0, a0_1, a0_2, a0_3, l0_4 => tree_Depth.l0 k 0 l0_4 (l0_4.length : Int) 0
end
theorem tree_Depth.mono_l : ∀ k, (∀ y0 y1 y2 y3 y4, LeO (tree_Depth.f k y0 y1 y2 y3 y4) (tree_Depth.f (k + 1) y0 y1 y2 y3 y4)) ∧ (∀ y0 y1 y2 y3, LeO (tree_Depth.l0 k y0 y1 y2 y3) (tree_Depth.l0 (k + 1) y0 y1 y2 y3))
 | 0 => ⟨fun _ _ _ _ _ r h => by simp [tree_Depth.f] at h, fun _ _ _ _ r h => by simp [tree_Depth.l0] at h⟩
 | k + 1 => by
  obtain ⟨ih0, ih1⟩ := tree_Depth.mono_l k
  refine ⟨?_, ?_⟩
  ·intro y0 y1 y2 y3 y4
   unfold tree_Depth.f
   repeat' first
  |(with_reducible exact ih0 _ _ _ _ _)
  |(with_reducible exact ih1 _ _ _ _)
  |(with_reducible exact LeO.refl _)
  |(with_reducible exact LeO.none _)
  |(with_reducible refine LeO.ite ?_ ?_)
  |(with_reducible refine LeO.bind ?_ (fun _ => ?_))
  |exact ih0 _ _ _ _ _
  |exact ih1 _ _ _ _
  |exact LeO.none _
  |refine LeO.ite ?_ ?_
  |refine LeO.bind ?_ (fun _ => ?_)
  ·intro y0 y1 y2 y3
   unfold tree_Depth.l0
   repeat' first
  |(with_reducible exact ih0 _ _ _ _ _)
  |(with_reducible exact ih1 _ _ _ _)
  |(with_reducible exact LeO.refl _)
  |(with_reducible exact LeO.none _)
  |(with_reducible refine LeO.ite ?_ ?_)
  |(with_reducible refine LeO.bind ?_ (fun _ => ?_))
  |exact ih0 _ _ _ _ _
  |exact ih1 _ _ _ _
  |exact LeO.none _
  |refine LeO.ite ?_ ?_
  |refine LeO.bind ?_ (fun _ => ?_)
theorem tree_Depth.mono : ∀ a0 a1 a2 a3 a4 k, LeO (tree_Depth.f k a0 a1 a2 a3 a4) (tree_Depth.f (k + 1) a0 a1 a2 a3 a4) := by
 intro a0 a1 a2 a3 a4 k
 obtain ⟨ih0, ih1⟩ := tree_Depth.mono_l k
 exact ih0 a0 a1 a2 a3 a4
set_option maxHeartbeats 8000000 in
set_option maxRecDepth 100000 in
theorem tree_Depth.calls (k : Nat) : ∀ (a0_0 : Int) (a0_1 : ByteArray) (a0_2 : Int) (a0_3 : Int) (A0_4 : Option Addr) (c0_4 : Nat) (l0_4 : List (S24)) (r : Int) (w : World) (hr0_4 : Kd.C k24 w A0_4 l0_4.length l0_4) (hc0_4 : l0_4.length ≤ c0_4) (h : tree_Depth.f k a0_0 a0_1 a0_2 a0_3 l0_4 = some r),
  Calls Tryz.prog 8 #[.agg #[.int .i64 a0_0, .string a0_1, .int .i64 a0_2, .int .i64 a0_3, .slice A0_4 l0_4.length c0_4]] w fun e w' => e = .returned (.int .i64 r) ∧ Below w.heap.size w w' := by
 induction k using Nat.strongRecOn with
 | _ k ih =>
 intro a0_0 a0_1 a0_2 a0_3 A0_4 c0_4 l0_4 r w hr0_4 hc0_4 h
 cases k with
 | zero => exact absurd h (by simp [tree_Depth.f])
 | succ k =>
 simp only [tree_Depth.f] at h
 have hu24 := Tryz.underlying24
 have HR0_4 := Aside0.mk hr0_4
 have HC0_4 := Aside0.mk hc0_4
 clear hr0_4 hc0_4
 have HB := Aside0.mk (Below.refl w.heap.size w)
 have H : (tree_Depth.l0 k 0 l0_4 (l0_4.length : Int) 0) = some r := h
 clear h
 have H' := Aside0.mk H
 clear H
 go_enter Tryz.func8, Tryz.ntmps8
 go_wp2_with (first|((with_reducible refine gate_dst (N := 1) rfl ?_); refine box_event ?hg (N := 1) ?hd (cs := #[.int .i64 a0_0, .string a0_1, .int .i64 a0_2, .int .i64 a0_3, .slice A0_4 l0_4.length c0_4]) (t := 24) ?hr ?_; (case hd => rfl); (case hg => rfl); (case hr => first|(go_simp; done)|(go_simp; rfl)); intro gb106 hg w2 hbox hb; have n0_ := Aside0.mk (below_step (by repeat (first|(with_reducible first|exact HB.out|apply below_alloc|apply pw_below_drewN|apply below_drew1)|exact HB.out)) hb); have n1_ := Aside0.mk (hbox); have n2_ := Aside0.mk ((by rw [hg]; exact (below_size (by repeat (first|(with_reducible first|exact HB.out|apply below_alloc|apply pw_below_drewN|apply below_drew1)|exact HB.out))) : w.heap.size ≤ gb106)); have n3_ := Aside0.mk ((by rw [hg]; exact (below_size (by repeat (first|(with_reducible first|exact HB.out|apply below_alloc|apply pw_below_drewN|apply below_drew1)|exact HB.out))) : w.heap.size ≤ gb106)); clear HB; have HB := n0_; have BK106 := n1_; have GW106 := n2_; have GE106 := n3_; clear n0_ n1_ n2_ n3_; clear hb hbox hg; have hcz3_0 : w2.cell? ⟨gb106, 0, none⟩ = some (.int .i64 a0_0) := (blk_cell BK106.out 0).trans rfl; have hcz3_1 : w2.cell? ⟨gb106, 1, none⟩ = some (.string a0_1) := (blk_cell BK106.out 1).trans rfl; have hcz3_2 : w2.cell? ⟨gb106, 2, none⟩ = some (.int .i64 a0_2) := (blk_cell BK106.out 2).trans rfl; have hcz3_3 : w2.cell? ⟨gb106, 3, none⟩ = some (.int .i64 a0_3) := (blk_cell BK106.out 3).trans rfl; have hcz3_4 : w2.cell? ⟨gb106, 4, none⟩ = some (.slice A0_4 l0_4.length c0_4) := (blk_cell BK106.out 4).trans rfl; have hfz3_0 := blk_frozen BK106.out 0; have hfz3_1 := blk_frozen BK106.out 1; have hfz3_2 := blk_frozen BK106.out 2; have hfz3_3 := blk_frozen BK106.out 3; have hfz3_4 := blk_frozen BK106.out 4))
 go_loopg [3, 9] k (fun kq v3 v9 w' => ∃ (x3_1 : Int) (x9_1 : Int), v3 = .int .i64 x3_1 ∧ v9 = .int .i64 x9_1 ∧ Aside0 (tree_Depth.l0 kq x3_1 l0_4 (l0_4.length : Int) x9_1 = some r) ∧ Aside0 (kq ≤ k) ∧ Aside0 (w'.heap[gb106]? = some (.cells #[.int .i64 a0_0, .string a0_1, .int .i64 a0_2, .int .i64 a0_3, (.slice A0_4 l0_4.length c0_4)] 24 (0, 0))) ∧ Aside0 (Below w.heap.size w w'))
 case atStart => exact ⟨(0), (0), (by first|rfl|(simp; done)|(simp [*]; done)), (by first|rfl|(simp; done)|(simp [*]; done)), H', ⟨Nat.le_refl _⟩, ⟨by (with_reducible repeat (first|refine blk_drewN ?_ _|refine blk_drew ?_|refine blk_alloc ?_ _)); exact BK106.out⟩, ⟨by repeat (first|(with_reducible first|exact HB.out|apply below_alloc|apply pw_below_drewN|apply below_drew1|refine below_set ?_ GE106.out)|exact HB.out)⟩⟩
 case round =>
  clear H'
  try clear p2
  try clear hcz3_0
  try clear hcz3_1
  try clear hcz3_2
  try clear hcz3_3
  try clear hcz3_4
  try clear hfz3_0
  try clear hfz3_1
  try clear hfz3_2
  try clear hfz3_3
  try clear hfz3_4
  obtain ⟨x3_1, x9_1, rfl, rfl, HA, HK1, BK106, HB⟩ := hrel
  cases gk with
  | zero => exact absurd HA.out (by simp [tree_Depth.l0])
  | succ k1 =>
   have H := HA.out
   clear HA
   simp only [tree_Depth.l0] at H
   by_cases c4 : x9_1 < (l0_4.length : Int)
   ·rw [if_pos c4] at H
    have c4b0 : decide (x9_1 < (l0_4.length : Int)) = true := decide_eq_true c4
    clear c4
    by_cases c5 : 0 ≤ x9_1
    ·rw [if_pos c5] at H
     have c5b0 : decide (0 ≤ x9_1) = true := decide_eq_true c5
     clear c5
     by_cases c6 : x9_1 < (l0_4.length : Int)
     ·rw [if_pos c6] at H
      have c6b0 : decide (x9_1 < (l0_4.length : Int)) = true := decide_eq_true c6
      clear c6
      replace H := Option.bind_eq_some_iff.mp H
      obtain ⟨t109, A70, H⟩ := H
      replace H : (tree_Depth.l0 k1 (mx x3_1 t109) l0_4 (l0_4.length : Int) (wrap64 (x9_1 + 1))) = some r := H
      have A7 := Aside0.mk A70
      clear A70
      obtain ⟨ji8, hji8⟩ : ∃ j_ : Int, (mx x3_1 t109) = j_ := ⟨_, rfl⟩
      replace H : (tree_Depth.l0 k1 ji8 l0_4 (l0_4.length : Int) (wrap64 (x9_1 + 1))) = some r := by first | (rw [hji8] at H; exact H)|(simp only [hji8] at H ⊢; exact H)
      (try rw [hji8] at A7)
      have hji8_ : (if x3_1 < t109 then t109 else x3_1) = ji8 := hji8
      have H' := Aside0.mk H
      clear H
      have p107 : 0 ≤ (x9_1 : Int) := of_decide_eq_true (by first|(with_reducible assumption) | assumption)
      have q107 : x9_1 < (l0_4.length : Int) := of_decide_eq_true (by first|(with_reducible assumption) | assumption)
      obtain ⟨ad107, A107_4, c107_4, e107, hx107_0, hx107_1, hx107_2, hx107_3, hx107_4, hl107_4, hi107_4⟩ := at_T24 HR0_4.out x9_1 p107 q107
      cases e107
      replace hx107_0 := (HB.out.cell (World.block_lt_of_cell? w _ hx107_0)).trans hx107_0
      replace hx107_1 := (HB.out.cell (World.block_lt_of_cell? w _ hx107_1)).trans hx107_1
      replace hx107_2 := (HB.out.cell (World.block_lt_of_cell? w _ hx107_2)).trans hx107_2
      replace hx107_3 := (HB.out.cell (World.block_lt_of_cell? w _ hx107_3)).trans hx107_3
      replace hx107_4 := (HB.out.cell (World.block_lt_of_cell? w _ hx107_4)).trans hx107_4
      have HR107_4 := Aside0.mk hi107_4
      have HC107_4 := Aside0.mk hl107_4
      clear hi107_4 hl107_4
      replace p107 := eq_true p107
      replace q107 := eq_true q107
      go_wp2_with (first|((with_reducible refine gate_dst (N := 5) rfl ?_); refine box_event ?hg (N := 5) ?hd (cs := #[.int .i64 0, .string (⟨#[]⟩ : ByteArray), .int .i64 0, .int .i64 0, .slice none 0 0]) (t := 24) ?hr ?_; (case hd => rfl); (case hg => rfl); (case hr => first|(go_simp; done)|(go_simp; rfl)); intro gb108 hg w9 hbox hb; have n0_ := Aside0.mk (blk_below (g := gb106) (o := .cells #[.int .i64 a0_0, .string a0_1, .int .i64 a0_2, .int .i64 a0_3, .slice (some ad107) l0_4.length c0_4] 24 (0, 0)) (by (with_reducible repeat (first|refine blk_drewN ?_ _|refine blk_drew ?_|refine blk_alloc ?_ _)); exact BK106.out) hb); have n1_ := Aside0.mk (below_step (by repeat (first|(with_reducible first|exact HB.out|apply below_alloc|apply pw_below_drewN|apply below_drew1|refine below_set ?_ GE106.out)|exact HB.out)) hb); have n2_ := Aside0.mk (hbox); have n3_ := Aside0.mk ((by rw [hg]; exact (below_size (by repeat (first|(with_reducible first|exact HB.out|apply below_alloc|apply pw_below_drewN|apply below_drew1|refine below_set ?_ GE106.out)|exact HB.out))) : w.heap.size ≤ gb108)); have n4_ := Aside0.mk ((by rw [hg]; exact (below_size (by repeat (first|(with_reducible first|exact HB.out|apply below_alloc|apply pw_below_drewN|apply below_drew1|refine below_set ?_ GE106.out)|exact HB.out))) : w.heap.size ≤ gb108)); have n5_ := Aside0.mk ((by rw [hg]; exact Nat.ne_of_lt (blk_lt (g := gb106) (o := .cells #[.int .i64 a0_0, .string a0_1, .int .i64 a0_2, .int .i64 a0_3, .slice (some ad107) l0_4.length c0_4] 24 (0, 0)) (by (with_reducible repeat (first|refine blk_drewN ?_ _|refine blk_drew ?_|refine blk_alloc ?_ _)); exact BK106.out)) : gb106 ≠ gb108)); have n6_ := Aside0.mk ((by rw [hg]; exact Nat.ne_of_gt (blk_lt (g := gb106) (o := .cells #[.int .i64 a0_0, .string a0_1, .int .i64 a0_2, .int .i64 a0_3, .slice (some ad107) l0_4.length c0_4] 24 (0, 0)) (by (with_reducible repeat (first|refine blk_drewN ?_ _|refine blk_drew ?_|refine blk_alloc ?_ _)); exact BK106.out)) : gb108 ≠ gb106)); clear BK106; clear HB; have BK106 := n0_; have HB := n1_; have BK108 := n2_; have GW108 := n3_; have GE108 := n4_; have NB106_108 := n5_; have NB108_106 := n6_; clear n0_ n1_ n2_ n3_ n4_ n5_ n6_; clear hb hbox hg; have hnb10 := NB108_106.out; have hnc10 := NB106_108.out; have hcz11_0 : w9.cell? ⟨gb108, 0, none⟩ = some (.int .i64 0) := (blk_cell BK108.out 0).trans rfl; have hcz11_1 : w9.cell? ⟨gb108, 1, none⟩ = some (.string (⟨#[]⟩ : ByteArray)) := (blk_cell BK108.out 1).trans rfl; have hcz11_2 : w9.cell? ⟨gb108, 2, none⟩ = some (.int .i64 0) := (blk_cell BK108.out 2).trans rfl; have hcz11_3 : w9.cell? ⟨gb108, 3, none⟩ = some (.int .i64 0) := (blk_cell BK108.out 3).trans rfl; have hcz11_4 : w9.cell? ⟨gb108, 4, none⟩ = some (.slice none 0 0) := (blk_cell BK108.out 4).trans rfl; have hfz11_0 := blk_frozen BK108.out 0; have hfz11_1 := blk_frozen BK108.out 1; have hfz11_2 := blk_frozen BK108.out 2; have hfz11_3 := blk_frozen BK108.out 3; have hfz11_4 := blk_frozen BK108.out 4) | ((with_reducible refine gate_callee (f := 8) rfl ?_); refine goesL_ (some 15) rfl rfl Tryz.func8 (by kernel_rfl) rfl #[.agg #[.int .i64 ((rd_T24 l0_4 x9_1).f0), .string ((rd_T24 l0_4 x9_1).f1), .int .i64 ((rd_T24 l0_4 x9_1).f2), .int .i64 ((rd_T24 l0_4 x9_1).f3), .slice A107_4 ((rd_T24 l0_4 x9_1).f4).length c107_4]] rfl (by (try simp only [List.map_toArray, List.map_cons, List.map_nil]); first|done|rfl|(simp only [List.length_drop, List.length_take]; rfl)) ?_; (with_reducible refine (ih k1 (by have := HK1.out; omega) ((rd_T24 l0_4 x9_1).f0) ((rd_T24 l0_4 x9_1).f1) ((rd_T24 l0_4 x9_1).f2) ((rd_T24 l0_4 x9_1).f3) _ _ ((rd_T24 l0_4 x9_1).f4) t109 _ ?side1 ?side2 A7.out).mono ?_); (case side1 => exact Kd.C_below HR107_4.out (by repeat (first|(with_reducible first|exact HB.out|apply below_alloc|apply pw_below_drewN|apply below_drew1|refine below_set ?_ GE106.out|refine below_set ?_ GE108.out)|exact HB.out))); (case side2 => exact HC107_4.out); rintro e w12 ⟨rfl, hb⟩; refine ⟨_, rfl, ?_⟩; have n0_ := Aside0.mk (blk_below (g := gb106) (o := .cells #[.int .i64 a0_0, .string a0_1, .int .i64 a0_2, .int .i64 a0_3, .slice (some ad107) l0_4.length c0_4] 24 (0, 0)) (by (with_reducible repeat (first|refine blk_drewN ?_ _|refine blk_drew ?_|refine blk_alloc ?_ _)); refine blk_far ?_ NB106_108.out _; (with_reducible repeat (first|refine blk_drewN ?_ _|refine blk_drew ?_|refine blk_alloc ?_ _)); refine blk_far ?_ NB106_108.out _; (with_reducible repeat (first|refine blk_drewN ?_ _|refine blk_drew ?_|refine blk_alloc ?_ _)); refine blk_far ?_ NB106_108.out _; (with_reducible repeat (first|refine blk_drewN ?_ _|refine blk_drew ?_|refine blk_alloc ?_ _)); refine blk_far ?_ NB106_108.out _; (with_reducible repeat (first|refine blk_drewN ?_ _|refine blk_drew ?_|refine blk_alloc ?_ _)); refine blk_far ?_ NB106_108.out _; (with_reducible repeat (first|refine blk_drewN ?_ _|refine blk_drew ?_|refine blk_alloc ?_ _)); exact BK106.out) hb); have n1_ := Aside0.mk (blk_below (g := gb108) (o := .cells #[.int .i64 ((rd_T24 l0_4 x9_1).f0), .string ((rd_T24 l0_4 x9_1).f1), .int .i64 ((rd_T24 l0_4 x9_1).f2), .int .i64 ((rd_T24 l0_4 x9_1).f3), .slice A107_4 ((rd_T24 l0_4 x9_1).f4).length c107_4] 24 (0, 0)) (by (with_reducible repeat (first|refine blk_drewN ?_ _|refine blk_drew ?_|refine blk_alloc ?_ _)); refine blk_put (cs := #[.int .i64 ((rd_T24 l0_4 x9_1).f0), .string ((rd_T24 l0_4 x9_1).f1), .int .i64 ((rd_T24 l0_4 x9_1).f2), .int .i64 ((rd_T24 l0_4 x9_1).f3), .slice none 0 0]) ?_ 4 _ rfl; (with_reducible repeat (first|refine blk_drewN ?_ _|refine blk_drew ?_|refine blk_alloc ?_ _)); refine blk_put (cs := #[.int .i64 ((rd_T24 l0_4 x9_1).f0), .string ((rd_T24 l0_4 x9_1).f1), .int .i64 ((rd_T24 l0_4 x9_1).f2), .int .i64 0, .slice none 0 0]) ?_ 3 _ rfl; (with_reducible repeat (first|refine blk_drewN ?_ _|refine blk_drew ?_|refine blk_alloc ?_ _)); refine blk_put (cs := #[.int .i64 ((rd_T24 l0_4 x9_1).f0), .string ((rd_T24 l0_4 x9_1).f1), .int .i64 0, .int .i64 0, .slice none 0 0]) ?_ 2 _ rfl; (with_reducible repeat (first|refine blk_drewN ?_ _|refine blk_drew ?_|refine blk_alloc ?_ _)); refine blk_put (cs := #[.int .i64 ((rd_T24 l0_4 x9_1).f0), .string (⟨#[]⟩ : ByteArray), .int .i64 0, .int .i64 0, .slice none 0 0]) ?_ 1 _ rfl; (with_reducible repeat (first|refine blk_drewN ?_ _|refine blk_drew ?_|refine blk_alloc ?_ _)); refine blk_put (cs := #[.int .i64 0, .string (⟨#[]⟩ : ByteArray), .int .i64 0, .int .i64 0, .slice none 0 0]) ?_ 0 _ rfl; (with_reducible repeat (first|refine blk_drewN ?_ _|refine blk_drew ?_|refine blk_alloc ?_ _)); exact BK108.out) hb); have n2_ := Aside0.mk (below_step (by repeat (first|(with_reducible first|exact HB.out|apply below_alloc|apply pw_below_drewN|apply below_drew1|refine below_set ?_ GE106.out|refine below_set ?_ GE108.out)|exact HB.out)) hb); clear BK106; clear BK108; clear HB; have BK106 := n0_; have BK108 := n1_; have HB := n2_; clear n0_ n1_ n2_; (try clear hb); (try clear hb2); (try clear hk); (try clear hi)))
      go_roundg k1
      case measure => have := HK1.out; omega
      case rel => exact ⟨(ji8), (wrap64 (x9_1 + 1)), (by first|rfl|(simp; done)|(simp only [← hji8] <;> (first|rfl | simp))|(simp [*]; done)), (by first|rfl|(simp; done)|(simp [*]; done)), H', ⟨by have := HK1.out; omega⟩, ⟨by (with_reducible repeat (first|refine blk_drewN ?_ _|refine blk_drew ?_|refine blk_alloc ?_ _)); exact BK106.out⟩, ⟨by repeat (first|(with_reducible first|exact HB.out|apply below_alloc|apply pw_below_drewN|apply below_drew1|refine below_set ?_ GE106.out|refine below_set ?_ GE108.out)|exact HB.out)⟩⟩
     ·rw [if_neg c6] at H
      exact absurd H (by simp)
    ·rw [if_neg c5] at H
     exact absurd H (by simp)
   ·rw [if_neg c4] at H
    have c4b0 : decide (x9_1 < (l0_4.length : Int)) = false := decide_eq_false c4
    clear c4
    obtain rfl := Option.some.inj H
    go_wp2
    go_ret
    exact ⟨by first|rfl|(simp [errW_none, errW_some] <;> rfl)|(simp [*, errW_none, errW_some] <;> rfl), by repeat (first|(with_reducible first|exact HB.out|apply below_alloc|apply pw_below_drewN|apply below_drew1|refine below_set ?_ GE106.out)|exact HB.out)⟩

end Go.Proofs.YthdkjfhpbigdpaaGreatDoor.Q

namespace Go.Proofs.YthdkjfhpbigdpaaGreatDoor.Q
open Go.RowKit Go.Proofs.YthdkjfhpbigdpaaGreatDoorW.PrintWords Go.Proofs.YthdkjfhpbigdpaaGreatDoorW.PrintLast Go.Proofs.YthdkjfhpbigdpaaGreatDoorW.PrintMore
attribute [local go_sem] max2_int min2_int max_two min_two max_three min_three max_four min_four
set_option linter.unusedVariables false
set_option linter.unusedSimpArgs false

mutual
def tree_Size.l0 : Nat → Int → List (S24) → Int → Int → Option (Int)
 | 0, _, _, _, _ => none
 | k + 1, x3, x7, x8, x9 => if x9 < x8 then (if 0 ≤ x9 then (if x9 < (x7.length : Int) then ((tree_Size.f k ((rd_T24 x7 x9).f0) ((rd_T24 x7 x9).f1) ((rd_T24 x7 x9).f2) ((rd_T24 x7 x9).f3) ((rd_T24 x7 x9).f4)).bind fun t113 => (tree_Size.l0 k (wrap64 (x3 + t113)) x7 x8 (wrap64 (x9 + 1)))) else (none)) else (none)) else (some x3)
def tree_Size.f : Nat → Int → ByteArray → Int → Int → List (S24) → Option (Int)
 | 0, _, _, _, _, _ => none
 | k + 1, a0_0, a0_1, a0_2, a0_3, l0_4 => tree_Size.l0 k 1 l0_4 (l0_4.length : Int) 0
end
theorem tree_Size.mono_l : ∀ k, (∀ y0 y1 y2 y3 y4, LeO (tree_Size.f k y0 y1 y2 y3 y4) (tree_Size.f (k + 1) y0 y1 y2 y3 y4)) ∧ (∀ y0 y1 y2 y3, LeO (tree_Size.l0 k y0 y1 y2 y3) (tree_Size.l0 (k + 1) y0 y1 y2 y3))
 | 0 => ⟨fun _ _ _ _ _ r h => by simp [tree_Size.f] at h, fun _ _ _ _ r h => by simp [tree_Size.l0] at h⟩
 | k + 1 => by
  obtain ⟨ih0, ih1⟩ := tree_Size.mono_l k
  refine ⟨?_, ?_⟩
  ·intro y0 y1 y2 y3 y4
   unfold tree_Size.f
   repeat' first
  |(with_reducible exact ih0 _ _ _ _ _)
  |(with_reducible exact ih1 _ _ _ _)
  |(with_reducible exact LeO.refl _)
  |(with_reducible exact LeO.none _)
  |(with_reducible refine LeO.ite ?_ ?_)
  |(with_reducible refine LeO.bind ?_ (fun _ => ?_))
  |exact ih0 _ _ _ _ _
  |exact ih1 _ _ _ _
  |exact LeO.none _
  |refine LeO.ite ?_ ?_
  |refine LeO.bind ?_ (fun _ => ?_)
  ·intro y0 y1 y2 y3
   unfold tree_Size.l0
   repeat' first
  |(with_reducible exact ih0 _ _ _ _ _)
  |(with_reducible exact ih1 _ _ _ _)
  |(with_reducible exact LeO.refl _)
  |(with_reducible exact LeO.none _)
  |(with_reducible refine LeO.ite ?_ ?_)
  |(with_reducible refine LeO.bind ?_ (fun _ => ?_))
  |exact ih0 _ _ _ _ _
  |exact ih1 _ _ _ _
  |exact LeO.none _
  |refine LeO.ite ?_ ?_
  |refine LeO.bind ?_ (fun _ => ?_)
theorem tree_Size.mono : ∀ a0 a1 a2 a3 a4 k, LeO (tree_Size.f k a0 a1 a2 a3 a4) (tree_Size.f (k + 1) a0 a1 a2 a3 a4) := by
 intro a0 a1 a2 a3 a4 k
 obtain ⟨ih0, ih1⟩ := tree_Size.mono_l k
 exact ih0 a0 a1 a2 a3 a4
set_option maxHeartbeats 8000000 in
set_option maxRecDepth 100000 in
theorem tree_Size.calls (k : Nat) : ∀ (a0_0 : Int) (a0_1 : ByteArray) (a0_2 : Int) (a0_3 : Int) (A0_4 : Option Addr) (c0_4 : Nat) (l0_4 : List (S24)) (r : Int) (w : World) (hr0_4 : Kd.C k24 w A0_4 l0_4.length l0_4) (hc0_4 : l0_4.length ≤ c0_4) (h : tree_Size.f k a0_0 a0_1 a0_2 a0_3 l0_4 = some r),
  Calls Tryz.prog 10 #[.agg #[.int .i64 a0_0, .string a0_1, .int .i64 a0_2, .int .i64 a0_3, .slice A0_4 l0_4.length c0_4]] w fun e w' => e = .returned (.int .i64 r) ∧ Below w.heap.size w w' := by
 induction k using Nat.strongRecOn with
 | _ k ih =>
 intro a0_0 a0_1 a0_2 a0_3 A0_4 c0_4 l0_4 r w hr0_4 hc0_4 h
 cases k with
 | zero => exact absurd h (by simp [tree_Size.f])
 | succ k =>
 simp only [tree_Size.f] at h
 have hu24 := Tryz.underlying24
 have HR0_4 := Aside0.mk hr0_4
 have HC0_4 := Aside0.mk hc0_4
 clear hr0_4 hc0_4
 have HB := Aside0.mk (Below.refl w.heap.size w)
 have H : (tree_Size.l0 k 1 l0_4 (l0_4.length : Int) 0) = some r := h
 clear h
 have H' := Aside0.mk H
 clear H
 go_enter Tryz.func10, Tryz.ntmps10
 go_wp2_with (first|((with_reducible refine gate_dst (N := 1) rfl ?_); refine box_event ?hg (N := 1) ?hd (cs := #[.int .i64 a0_0, .string a0_1, .int .i64 a0_2, .int .i64 a0_3, .slice A0_4 l0_4.length c0_4]) (t := 24) ?hr ?_; (case hd => rfl); (case hg => rfl); (case hr => first|(go_simp; done)|(go_simp; rfl)); intro gb110 hg w2 hbox hb; have n0_ := Aside0.mk (below_step (by repeat (first|(with_reducible first|exact HB.out|apply below_alloc|apply pw_below_drewN|apply below_drew1)|exact HB.out)) hb); have n1_ := Aside0.mk (hbox); have n2_ := Aside0.mk ((by rw [hg]; exact (below_size (by repeat (first|(with_reducible first|exact HB.out|apply below_alloc|apply pw_below_drewN|apply below_drew1)|exact HB.out))) : w.heap.size ≤ gb110)); have n3_ := Aside0.mk ((by rw [hg]; exact (below_size (by repeat (first|(with_reducible first|exact HB.out|apply below_alloc|apply pw_below_drewN|apply below_drew1)|exact HB.out))) : w.heap.size ≤ gb110)); clear HB; have HB := n0_; have BK110 := n1_; have GW110 := n2_; have GE110 := n3_; clear n0_ n1_ n2_ n3_; clear hb hbox hg; have hcz3_0 : w2.cell? ⟨gb110, 0, none⟩ = some (.int .i64 a0_0) := (blk_cell BK110.out 0).trans rfl; have hcz3_1 : w2.cell? ⟨gb110, 1, none⟩ = some (.string a0_1) := (blk_cell BK110.out 1).trans rfl; have hcz3_2 : w2.cell? ⟨gb110, 2, none⟩ = some (.int .i64 a0_2) := (blk_cell BK110.out 2).trans rfl; have hcz3_3 : w2.cell? ⟨gb110, 3, none⟩ = some (.int .i64 a0_3) := (blk_cell BK110.out 3).trans rfl; have hcz3_4 : w2.cell? ⟨gb110, 4, none⟩ = some (.slice A0_4 l0_4.length c0_4) := (blk_cell BK110.out 4).trans rfl; have hfz3_0 := blk_frozen BK110.out 0; have hfz3_1 := blk_frozen BK110.out 1; have hfz3_2 := blk_frozen BK110.out 2; have hfz3_3 := blk_frozen BK110.out 3; have hfz3_4 := blk_frozen BK110.out 4))
 go_loopg [3, 9] k (fun kq v3 v9 w' => ∃ (x3_1 : Int) (x9_1 : Int), v3 = .int .i64 x3_1 ∧ v9 = .int .i64 x9_1 ∧ Aside0 (tree_Size.l0 kq x3_1 l0_4 (l0_4.length : Int) x9_1 = some r) ∧ Aside0 (kq ≤ k) ∧ Aside0 (w'.heap[gb110]? = some (.cells #[.int .i64 a0_0, .string a0_1, .int .i64 a0_2, .int .i64 a0_3, (.slice A0_4 l0_4.length c0_4)] 24 (0, 0))) ∧ Aside0 (Below w.heap.size w w'))
 case atStart => exact ⟨(1), (0), (by first|rfl|(simp; done)|(simp [*]; done)), (by first|rfl|(simp; done)|(simp [*]; done)), H', ⟨Nat.le_refl _⟩, ⟨by (with_reducible repeat (first|refine blk_drewN ?_ _|refine blk_drew ?_|refine blk_alloc ?_ _)); exact BK110.out⟩, ⟨by repeat (first|(with_reducible first|exact HB.out|apply below_alloc|apply pw_below_drewN|apply below_drew1|refine below_set ?_ GE110.out)|exact HB.out)⟩⟩
 case round =>
  clear H'
  try clear c1
  try clear p2
  try clear hcz3_0
  try clear hcz3_1
  try clear hcz3_2
  try clear hcz3_3
  try clear hcz3_4
  try clear hfz3_0
  try clear hfz3_1
  try clear hfz3_2
  try clear hfz3_3
  try clear hfz3_4
  obtain ⟨x3_1, x9_1, rfl, rfl, HA, HK1, BK110, HB⟩ := hrel
  cases gk with
  | zero => exact absurd HA.out (by simp [tree_Size.l0])
  | succ k1 =>
   have H := HA.out
   clear HA
   simp only [tree_Size.l0] at H
   by_cases c4 : x9_1 < (l0_4.length : Int)
   ·rw [if_pos c4] at H
    have c4b0 : decide (x9_1 < (l0_4.length : Int)) = true := decide_eq_true c4
    clear c4
    by_cases c5 : 0 ≤ x9_1
    ·rw [if_pos c5] at H
     have c5b0 : decide (0 ≤ x9_1) = true := decide_eq_true c5
     clear c5
     by_cases c6 : x9_1 < (l0_4.length : Int)
     ·rw [if_pos c6] at H
      have c6b0 : decide (x9_1 < (l0_4.length : Int)) = true := decide_eq_true c6
      clear c6
      replace H := Option.bind_eq_some_iff.mp H
      obtain ⟨t113, A70, H⟩ := H
      replace H : (tree_Size.l0 k1 (wrap64 (x3_1 + t113)) l0_4 (l0_4.length : Int) (wrap64 (x9_1 + 1))) = some r := H
      have A7 := Aside0.mk A70
      clear A70
      have H' := Aside0.mk H
      clear H
      have p111 : 0 ≤ (x9_1 : Int) := of_decide_eq_true (by first|(with_reducible assumption) | assumption)
      have q111 : x9_1 < (l0_4.length : Int) := of_decide_eq_true (by first|(with_reducible assumption) | assumption)
      obtain ⟨ad111, A111_4, c111_4, e111, hx111_0, hx111_1, hx111_2, hx111_3, hx111_4, hl111_4, hi111_4⟩ := at_T24 HR0_4.out x9_1 p111 q111
      cases e111
      replace hx111_0 := (HB.out.cell (World.block_lt_of_cell? w _ hx111_0)).trans hx111_0
      replace hx111_1 := (HB.out.cell (World.block_lt_of_cell? w _ hx111_1)).trans hx111_1
      replace hx111_2 := (HB.out.cell (World.block_lt_of_cell? w _ hx111_2)).trans hx111_2
      replace hx111_3 := (HB.out.cell (World.block_lt_of_cell? w _ hx111_3)).trans hx111_3
      replace hx111_4 := (HB.out.cell (World.block_lt_of_cell? w _ hx111_4)).trans hx111_4
      have HR111_4 := Aside0.mk hi111_4
      have HC111_4 := Aside0.mk hl111_4
      clear hi111_4 hl111_4
      replace p111 := eq_true p111
      replace q111 := eq_true q111
      go_wp2_with (first|((with_reducible refine gate_dst (N := 5) rfl ?_); refine box_event ?hg (N := 5) ?hd (cs := #[.int .i64 0, .string (⟨#[]⟩ : ByteArray), .int .i64 0, .int .i64 0, .slice none 0 0]) (t := 24) ?hr ?_; (case hd => rfl); (case hg => rfl); (case hr => first|(go_simp; done)|(go_simp; rfl)); intro gb112 hg w8 hbox hb; have n0_ := Aside0.mk (blk_below (g := gb110) (o := .cells #[.int .i64 a0_0, .string a0_1, .int .i64 a0_2, .int .i64 a0_3, .slice (some ad111) l0_4.length c0_4] 24 (0, 0)) (by (with_reducible repeat (first|refine blk_drewN ?_ _|refine blk_drew ?_|refine blk_alloc ?_ _)); exact BK110.out) hb); have n1_ := Aside0.mk (below_step (by repeat (first|(with_reducible first|exact HB.out|apply below_alloc|apply pw_below_drewN|apply below_drew1|refine below_set ?_ GE110.out)|exact HB.out)) hb); have n2_ := Aside0.mk (hbox); have n3_ := Aside0.mk ((by rw [hg]; exact (below_size (by repeat (first|(with_reducible first|exact HB.out|apply below_alloc|apply pw_below_drewN|apply below_drew1|refine below_set ?_ GE110.out)|exact HB.out))) : w.heap.size ≤ gb112)); have n4_ := Aside0.mk ((by rw [hg]; exact (below_size (by repeat (first|(with_reducible first|exact HB.out|apply below_alloc|apply pw_below_drewN|apply below_drew1|refine below_set ?_ GE110.out)|exact HB.out))) : w.heap.size ≤ gb112)); have n5_ := Aside0.mk ((by rw [hg]; exact Nat.ne_of_lt (blk_lt (g := gb110) (o := .cells #[.int .i64 a0_0, .string a0_1, .int .i64 a0_2, .int .i64 a0_3, .slice (some ad111) l0_4.length c0_4] 24 (0, 0)) (by (with_reducible repeat (first|refine blk_drewN ?_ _|refine blk_drew ?_|refine blk_alloc ?_ _)); exact BK110.out)) : gb110 ≠ gb112)); have n6_ := Aside0.mk ((by rw [hg]; exact Nat.ne_of_gt (blk_lt (g := gb110) (o := .cells #[.int .i64 a0_0, .string a0_1, .int .i64 a0_2, .int .i64 a0_3, .slice (some ad111) l0_4.length c0_4] 24 (0, 0)) (by (with_reducible repeat (first|refine blk_drewN ?_ _|refine blk_drew ?_|refine blk_alloc ?_ _)); exact BK110.out)) : gb112 ≠ gb110)); clear BK110; clear HB; have BK110 := n0_; have HB := n1_; have BK112 := n2_; have GW112 := n3_; have GE112 := n4_; have NB110_112 := n5_; have NB112_110 := n6_; clear n0_ n1_ n2_ n3_ n4_ n5_ n6_; clear hb hbox hg; have hnb9 := NB112_110.out; have hnc9 := NB110_112.out; have hcz10_0 : w8.cell? ⟨gb112, 0, none⟩ = some (.int .i64 0) := (blk_cell BK112.out 0).trans rfl; have hcz10_1 : w8.cell? ⟨gb112, 1, none⟩ = some (.string (⟨#[]⟩ : ByteArray)) := (blk_cell BK112.out 1).trans rfl; have hcz10_2 : w8.cell? ⟨gb112, 2, none⟩ = some (.int .i64 0) := (blk_cell BK112.out 2).trans rfl; have hcz10_3 : w8.cell? ⟨gb112, 3, none⟩ = some (.int .i64 0) := (blk_cell BK112.out 3).trans rfl; have hcz10_4 : w8.cell? ⟨gb112, 4, none⟩ = some (.slice none 0 0) := (blk_cell BK112.out 4).trans rfl; have hfz10_0 := blk_frozen BK112.out 0; have hfz10_1 := blk_frozen BK112.out 1; have hfz10_2 := blk_frozen BK112.out 2; have hfz10_3 := blk_frozen BK112.out 3; have hfz10_4 := blk_frozen BK112.out 4) | ((with_reducible refine gate_callee (f := 10) rfl ?_); refine goesL_ (some 15) rfl rfl Tryz.func10 (by kernel_rfl) rfl #[.agg #[.int .i64 ((rd_T24 l0_4 x9_1).f0), .string ((rd_T24 l0_4 x9_1).f1), .int .i64 ((rd_T24 l0_4 x9_1).f2), .int .i64 ((rd_T24 l0_4 x9_1).f3), .slice A111_4 ((rd_T24 l0_4 x9_1).f4).length c111_4]] rfl (by (try simp only [List.map_toArray, List.map_cons, List.map_nil]); first|done|rfl|(simp only [List.length_drop, List.length_take]; rfl)) ?_; (with_reducible refine (ih k1 (by have := HK1.out; omega) ((rd_T24 l0_4 x9_1).f0) ((rd_T24 l0_4 x9_1).f1) ((rd_T24 l0_4 x9_1).f2) ((rd_T24 l0_4 x9_1).f3) _ _ ((rd_T24 l0_4 x9_1).f4) t113 _ ?side1 ?side2 A7.out).mono ?_); (case side1 => exact Kd.C_below HR111_4.out (by repeat (first|(with_reducible first|exact HB.out|apply below_alloc|apply pw_below_drewN|apply below_drew1|refine below_set ?_ GE110.out|refine below_set ?_ GE112.out)|exact HB.out))); (case side2 => exact HC111_4.out); rintro e w11 ⟨rfl, hb⟩; refine ⟨_, rfl, ?_⟩; have n0_ := Aside0.mk (blk_below (g := gb110) (o := .cells #[.int .i64 a0_0, .string a0_1, .int .i64 a0_2, .int .i64 a0_3, .slice (some ad111) l0_4.length c0_4] 24 (0, 0)) (by (with_reducible repeat (first|refine blk_drewN ?_ _|refine blk_drew ?_|refine blk_alloc ?_ _)); refine blk_far ?_ NB110_112.out _; (with_reducible repeat (first|refine blk_drewN ?_ _|refine blk_drew ?_|refine blk_alloc ?_ _)); refine blk_far ?_ NB110_112.out _; (with_reducible repeat (first|refine blk_drewN ?_ _|refine blk_drew ?_|refine blk_alloc ?_ _)); refine blk_far ?_ NB110_112.out _; (with_reducible repeat (first|refine blk_drewN ?_ _|refine blk_drew ?_|refine blk_alloc ?_ _)); refine blk_far ?_ NB110_112.out _; (with_reducible repeat (first|refine blk_drewN ?_ _|refine blk_drew ?_|refine blk_alloc ?_ _)); refine blk_far ?_ NB110_112.out _; (with_reducible repeat (first|refine blk_drewN ?_ _|refine blk_drew ?_|refine blk_alloc ?_ _)); exact BK110.out) hb); have n1_ := Aside0.mk (blk_below (g := gb112) (o := .cells #[.int .i64 ((rd_T24 l0_4 x9_1).f0), .string ((rd_T24 l0_4 x9_1).f1), .int .i64 ((rd_T24 l0_4 x9_1).f2), .int .i64 ((rd_T24 l0_4 x9_1).f3), .slice A111_4 ((rd_T24 l0_4 x9_1).f4).length c111_4] 24 (0, 0)) (by (with_reducible repeat (first|refine blk_drewN ?_ _|refine blk_drew ?_|refine blk_alloc ?_ _)); refine blk_put (cs := #[.int .i64 ((rd_T24 l0_4 x9_1).f0), .string ((rd_T24 l0_4 x9_1).f1), .int .i64 ((rd_T24 l0_4 x9_1).f2), .int .i64 ((rd_T24 l0_4 x9_1).f3), .slice none 0 0]) ?_ 4 _ rfl; (with_reducible repeat (first|refine blk_drewN ?_ _|refine blk_drew ?_|refine blk_alloc ?_ _)); refine blk_put (cs := #[.int .i64 ((rd_T24 l0_4 x9_1).f0), .string ((rd_T24 l0_4 x9_1).f1), .int .i64 ((rd_T24 l0_4 x9_1).f2), .int .i64 0, .slice none 0 0]) ?_ 3 _ rfl; (with_reducible repeat (first|refine blk_drewN ?_ _|refine blk_drew ?_|refine blk_alloc ?_ _)); refine blk_put (cs := #[.int .i64 ((rd_T24 l0_4 x9_1).f0), .string ((rd_T24 l0_4 x9_1).f1), .int .i64 0, .int .i64 0, .slice none 0 0]) ?_ 2 _ rfl; (with_reducible repeat (first|refine blk_drewN ?_ _|refine blk_drew ?_|refine blk_alloc ?_ _)); refine blk_put (cs := #[.int .i64 ((rd_T24 l0_4 x9_1).f0), .string (⟨#[]⟩ : ByteArray), .int .i64 0, .int .i64 0, .slice none 0 0]) ?_ 1 _ rfl; (with_reducible repeat (first|refine blk_drewN ?_ _|refine blk_drew ?_|refine blk_alloc ?_ _)); refine blk_put (cs := #[.int .i64 0, .string (⟨#[]⟩ : ByteArray), .int .i64 0, .int .i64 0, .slice none 0 0]) ?_ 0 _ rfl; (with_reducible repeat (first|refine blk_drewN ?_ _|refine blk_drew ?_|refine blk_alloc ?_ _)); exact BK112.out) hb); have n2_ := Aside0.mk (below_step (by repeat (first|(with_reducible first|exact HB.out|apply below_alloc|apply pw_below_drewN|apply below_drew1|refine below_set ?_ GE110.out|refine below_set ?_ GE112.out)|exact HB.out)) hb); clear BK110; clear BK112; clear HB; have BK110 := n0_; have BK112 := n1_; have HB := n2_; clear n0_ n1_ n2_; (try clear hb); (try clear hb2); (try clear hk); (try clear hi)))
      go_roundg k1
      case measure => have := HK1.out; omega
      case rel => exact ⟨(wrap64 (x3_1 + t113)), (wrap64 (x9_1 + 1)), (by first|rfl|(simp; done)|(simp [*]; done)), (by first|rfl|(simp; done)|(simp [*]; done)), H', ⟨by have := HK1.out; omega⟩, ⟨by (with_reducible repeat (first|refine blk_drewN ?_ _|refine blk_drew ?_|refine blk_alloc ?_ _)); exact BK110.out⟩, ⟨by repeat (first|(with_reducible first|exact HB.out|apply below_alloc|apply pw_below_drewN|apply below_drew1|refine below_set ?_ GE110.out|refine below_set ?_ GE112.out)|exact HB.out)⟩⟩
     ·rw [if_neg c6] at H
      exact absurd H (by simp)
    ·rw [if_neg c5] at H
     exact absurd H (by simp)
   ·rw [if_neg c4] at H
    have c4b0 : decide (x9_1 < (l0_4.length : Int)) = false := decide_eq_false c4
    clear c4
    obtain rfl := Option.some.inj H
    go_wp2
    go_ret
    exact ⟨by first|rfl|(simp [errW_none, errW_some] <;> rfl)|(simp [*, errW_none, errW_some] <;> rfl), by repeat (first|(with_reducible first|exact HB.out|apply below_alloc|apply pw_below_drewN|apply below_drew1|refine below_set ?_ GE110.out)|exact HB.out)⟩

end Go.Proofs.YthdkjfhpbigdpaaGreatDoor.Q

namespace Go.Proofs.YthdkjfhpbigdpaaGreatDoor.Q
open Go.RowKit Go.Proofs.YthdkjfhpbigdpaaGreatDoorW.PrintWords Go.Proofs.YthdkjfhpbigdpaaGreatDoorW.PrintLast Go.Proofs.YthdkjfhpbigdpaaGreatDoorW.PrintMore
attribute [local go_sem] max2_int min2_int max_two min_two max_three min_three max_four min_four
set_option linter.unusedVariables false
set_option linter.unusedSimpArgs false

mutual
def tree_Bare.l0 : Nat → List (S24) → List (S24) → Int → Int → Int → ByteArray → Int → Int → List (S24) → Option (Int × ByteArray × Int × Int × (List (S24)))
 | 0, _, _, _, _, _, _, _, _, _ => none
 | k + 1, x3, x7, x8, x9, x115000, x115001, x115002, x115003, x115004 => if x9 < x8 then (if 0 ≤ x9 then (if x9 < (x7.length : Int) then ((tree_Bare.f k ((rd_T24 x7 x9).f0) ((rd_T24 x7 x9).f1) ((rd_T24 x7 x9).f2) ((rd_T24 x7 x9).f3) ((rd_T24 x7 x9).f4)).bind fun bt118 => (if x3.length < 2199023255552 then (tree_Bare.l0 k (x3 ++ [(⟨bt118.1, bt118.2.1, bt118.2.2.1, bt118.2.2.2.1, bt118.2.2.2.2⟩ : S24)]) x7 x8 (wrap64 (x9 + 1)) x115000 x115001 x115002 x115003 x115004) else (none))) else (none)) else (none)) else (some (x115000, x115001, x115002, 0, x3))
def tree_Bare.f : Nat → Int → ByteArray → Int → Int → List (S24) → Option (Int × ByteArray × Int × Int × (List (S24)))
 | 0, _, _, _, _, _ => none
 | k + 1, a0_0, a0_1, a0_2, a0_3, l0_4 => tree_Bare.l0 k ([] : List (S24)) l0_4 (l0_4.length : Int) 0 a0_0 a0_1 a0_2 a0_3 l0_4
end
theorem tree_Bare.mono_l : ∀ k, (∀ y0 y1 y2 y3 y4, LeO (tree_Bare.f k y0 y1 y2 y3 y4) (tree_Bare.f (k + 1) y0 y1 y2 y3 y4)) ∧ (∀ y0 y1 y2 y3 y4 y5 y6 y7 y8, LeO (tree_Bare.l0 k y0 y1 y2 y3 y4 y5 y6 y7 y8) (tree_Bare.l0 (k + 1) y0 y1 y2 y3 y4 y5 y6 y7 y8))
 | 0 => ⟨fun _ _ _ _ _ r h => by simp [tree_Bare.f] at h, fun _ _ _ _ _ _ _ _ _ r h => by simp [tree_Bare.l0] at h⟩
 | k + 1 => by
  obtain ⟨ih0, ih1⟩ := tree_Bare.mono_l k
  refine ⟨?_, ?_⟩
  ·intro y0 y1 y2 y3 y4
   unfold tree_Bare.f
   repeat' first
  |(with_reducible exact ih0 _ _ _ _ _)
  |(with_reducible exact ih1 _ _ _ _ _ _ _ _ _)
  |(with_reducible exact LeO.refl _)
  |(with_reducible exact LeO.none _)
  |(with_reducible refine LeO.ite ?_ ?_)
  |(with_reducible refine LeO.bind ?_ (fun _ => ?_))
  |exact ih0 _ _ _ _ _
  |exact ih1 _ _ _ _ _ _ _ _ _
  |exact LeO.none _
  |refine LeO.ite ?_ ?_
  |refine LeO.bind ?_ (fun _ => ?_)
  ·intro y0 y1 y2 y3 y4 y5 y6 y7 y8
   unfold tree_Bare.l0
   repeat' first
  |(with_reducible exact ih0 _ _ _ _ _)
  |(with_reducible exact ih1 _ _ _ _ _ _ _ _ _)
  |(with_reducible exact LeO.refl _)
  |(with_reducible exact LeO.none _)
  |(with_reducible refine LeO.ite ?_ ?_)
  |(with_reducible refine LeO.bind ?_ (fun _ => ?_))
  |exact ih0 _ _ _ _ _
  |exact ih1 _ _ _ _ _ _ _ _ _
  |exact LeO.none _
  |refine LeO.ite ?_ ?_
  |refine LeO.bind ?_ (fun _ => ?_)
theorem tree_Bare.mono : ∀ a0 a1 a2 a3 a4 k, LeO (tree_Bare.f k a0 a1 a2 a3 a4) (tree_Bare.f (k + 1) a0 a1 a2 a3 a4) := by
 intro a0 a1 a2 a3 a4 k
 obtain ⟨ih0, ih1⟩ := tree_Bare.mono_l k
 exact ih0 a0 a1 a2 a3 a4
set_option maxHeartbeats 8000000 in
set_option maxRecDepth 100000 in
theorem tree_Bare.calls (k : Nat) : ∀ (a0_0 : Int) (a0_1 : ByteArray) (a0_2 : Int) (a0_3 : Int) (A0_4 : Option Addr) (c0_4 : Nat) (l0_4 : List (S24)) (r1 : Int) (r2 : ByteArray) (r3 : Int) (r4 : Int) (r5 : List (S24)) (w : World) (hr0_4 : Kd.C k24 w A0_4 l0_4.length l0_4) (hc0_4 : l0_4.length ≤ c0_4) (h : tree_Bare.f k a0_0 a0_1 a0_2 a0_3 l0_4 = some (r1, r2, r3, r4, r5)),
  Calls Tryz.prog 13 #[.agg #[.int .i64 a0_0, .string a0_1, .int .i64 a0_2, .int .i64 a0_3, .slice A0_4 l0_4.length c0_4]] w fun e w' => ∃ v4_ : Value, e = .returned (.agg #[.int .i64 r1, .string r2, .int .i64 r3, .int .i64 r4, v4_]) ∧ Kd.R k24 24 w' w.heap.size (fun _ => True) v4_ r5 ∧ Below w.heap.size w w' := by
 induction k using Nat.strongRecOn with
 | _ k ih =>
 intro a0_0 a0_1 a0_2 a0_3 A0_4 c0_4 l0_4 r1 r2 r3 r4 r5 w hr0_4 hc0_4 h
 cases k with
 | zero => exact absurd h (by simp [tree_Bare.f])
 | succ k =>
 simp only [tree_Bare.f] at h
 have hu24 := Tryz.underlying24
 have HR0_4 := Aside0.mk hr0_4
 have HC0_4 := Aside0.mk hc0_4
 clear hr0_4 hc0_4
 have HB := Aside0.mk (Below.refl w.heap.size w)
 have H : (tree_Bare.l0 k ([] : List (S24)) l0_4 (l0_4.length : Int) 0 a0_0 a0_1 a0_2 a0_3 l0_4) = some (r1, r2, r3, r4, r5) := h
 clear h
 have H' := Aside0.mk H
 clear H
 go_enter Tryz.func13, Tryz.ntmps13
 go_wp2_with (first|((with_reducible refine gate_dst (N := 1) rfl ?_); refine box_event ?hg (N := 1) ?hd (cs := #[.int .i64 a0_0, .string a0_1, .int .i64 a0_2, .int .i64 a0_3, .slice A0_4 l0_4.length c0_4]) (t := 24) ?hr ?_; (case hd => rfl); (case hg => rfl); (case hr => first|(go_simp; done)|(go_simp; rfl)); intro gb114 hg w2 hbox hb; have n0_ := Aside0.mk (below_step (by repeat (first|(with_reducible first|exact HB.out|apply below_alloc|apply pw_below_drewN|apply below_drew1)|exact HB.out)) hb); have n1_ := Aside0.mk (hbox); have n2_ := Aside0.mk ((by rw [hg]; exact (below_size (by repeat (first|(with_reducible first|exact HB.out|apply below_alloc|apply pw_below_drewN|apply below_drew1)|exact HB.out))) : w.heap.size ≤ gb114)); have n3_ := Aside0.mk ((by rw [hg]; exact (below_size (by repeat (first|(with_reducible first|exact HB.out|apply below_alloc|apply pw_below_drewN|apply below_drew1)|exact HB.out))) : w.heap.size ≤ gb114)); clear HB; have HB := n0_; have BK114 := n1_; have GW114 := n2_; have GE114 := n3_; clear n0_ n1_ n2_ n3_; clear hb hbox hg) | ((with_reducible refine gate_dst (N := 2) rfl ?_); refine box_event ?hg (N := 2) ?hd (cs := #[.int .i64 0, .string (⟨#[]⟩ : ByteArray), .int .i64 0, .int .i64 0, .slice none 0 0]) (t := 24) ?hr ?_; (case hd => rfl); (case hg => rfl); (case hr => first|(go_simp; done)|(go_simp; rfl)); intro gb115 hg w3 hbox hb; have n0_ := Aside0.mk (blk_below (g := gb114) (o := .cells #[.int .i64 a0_0, .string a0_1, .int .i64 a0_2, .int .i64 a0_3, .slice A0_4 l0_4.length c0_4] 24 (0, 0)) (by (with_reducible repeat (first|refine blk_drewN ?_ _|refine blk_drew ?_|refine blk_alloc ?_ _)); exact BK114.out) hb); have n1_ := Aside0.mk (below_step (by repeat (first|(with_reducible first|exact HB.out|apply below_alloc|apply pw_below_drewN|apply below_drew1|refine below_set ?_ GE114.out)|exact HB.out)) hb); have n2_ := Aside0.mk (hbox); have n3_ := Aside0.mk ((by rw [hg]; exact (below_size (by repeat (first|(with_reducible first|exact HB.out|apply below_alloc|apply pw_below_drewN|apply below_drew1|refine below_set ?_ GE114.out)|exact HB.out))) : w.heap.size ≤ gb115)); have n4_ := Aside0.mk ((by rw [hg]; exact (below_size (by repeat (first|(with_reducible first|exact HB.out|apply below_alloc|apply pw_below_drewN|apply below_drew1|refine below_set ?_ GE114.out)|exact HB.out))) : w.heap.size ≤ gb115)); have n5_ := Aside0.mk ((by rw [hg]; exact Nat.ne_of_lt (blk_lt (g := gb114) (o := .cells #[.int .i64 a0_0, .string a0_1, .int .i64 a0_2, .int .i64 a0_3, .slice A0_4 l0_4.length c0_4] 24 (0, 0)) (by (with_reducible repeat (first|refine blk_drewN ?_ _|refine blk_drew ?_|refine blk_alloc ?_ _)); exact BK114.out)) : gb114 ≠ gb115)); have n6_ := Aside0.mk ((by rw [hg]; exact Nat.ne_of_gt (blk_lt (g := gb114) (o := .cells #[.int .i64 a0_0, .string a0_1, .int .i64 a0_2, .int .i64 a0_3, .slice A0_4 l0_4.length c0_4] 24 (0, 0)) (by (with_reducible repeat (first|refine blk_drewN ?_ _|refine blk_drew ?_|refine blk_alloc ?_ _)); exact BK114.out)) : gb115 ≠ gb114)); clear BK114; clear HB; have BK114 := n0_; have HB := n1_; have BK115 := n2_; have GW115 := n3_; have GE115 := n4_; have NB114_115 := n5_; have NB115_114 := n6_; clear n0_ n1_ n2_ n3_ n4_ n5_ n6_; clear hb hbox hg; have hnb4 := NB114_115.out; have hnc4 := NB115_114.out; have hcz5_0 : w3.cell? ⟨gb114, 0, none⟩ = some (.int .i64 a0_0) := (blk_cell BK114.out 0).trans rfl; have hcz5_1 : w3.cell? ⟨gb114, 1, none⟩ = some (.string a0_1) := (blk_cell BK114.out 1).trans rfl; have hcz5_2 : w3.cell? ⟨gb114, 2, none⟩ = some (.int .i64 a0_2) := (blk_cell BK114.out 2).trans rfl; have hcz5_3 : w3.cell? ⟨gb114, 3, none⟩ = some (.int .i64 a0_3) := (blk_cell BK114.out 3).trans rfl; have hcz5_4 : w3.cell? ⟨gb114, 4, none⟩ = some (.slice A0_4 l0_4.length c0_4) := (blk_cell BK114.out 4).trans rfl; have hfz5_0 := blk_frozen BK114.out 0; have hfz5_1 := blk_frozen BK114.out 1; have hfz5_2 := blk_frozen BK114.out 2; have hfz5_3 := blk_frozen BK114.out 3; have hfz5_4 := blk_frozen BK114.out 4))
 go_loopg [3, 9] k (fun kq v3 v9 w' => ∃ (x3_1 : List (S24)) (x9_1 : Int), v9 = .int .i64 x9_1 ∧ Aside0 (tree_Bare.l0 kq x3_1 l0_4 (l0_4.length : Int) x9_1 a0_0 a0_1 a0_2 a0_3 l0_4 = some (r1, r2, r3, r4, r5)) ∧ Aside0 (kq ≤ k) ∧ Aside0 (Kd.R k24 24 w' w.heap.size (fun k_ => k_ ≠ gb114 ∧ k_ ≠ gb115) v3 x3_1) ∧ Aside0 (w'.heap[gb114]? = some (.cells #[.int .i64 a0_0, .string a0_1, .int .i64 a0_2, .int .i64 a0_3, (.slice A0_4 l0_4.length c0_4)] 24 (0, 0))) ∧ Aside0 (w'.heap[gb115]? = some (.cells #[.int .i64 0, .string (⟨#[]⟩ : ByteArray), .int .i64 0, .int .i64 0, (.slice none 0 0)] 24 (0, 0))) ∧ Aside0 (Below w.heap.size w w'))
 case atStart => exact ⟨(([] : List (S24))), (0), (by first|rfl|(simp; done)|(simp [*]; done)), H', ⟨Nat.le_refl _⟩, ⟨by first|exact Kd.R_nil _ _ _ _ _|exact Kd.N_nil _ _ _ _ _|exact Kd.V_nil _ _ _ _ _|exact Kd.Q_nil _ _ _ _ _|exact Kd.S_nil _ _ _ _ _⟩, ⟨by (with_reducible repeat (first|refine blk_drewN ?_ _|refine blk_drew ?_|refine blk_alloc ?_ _)); exact BK114.out⟩, ⟨by (with_reducible repeat (first|refine blk_drewN ?_ _|refine blk_drew ?_|refine blk_alloc ?_ _)); exact BK115.out⟩, ⟨by repeat (first|(with_reducible first|exact HB.out|apply below_alloc|apply pw_below_drewN|apply below_drew1|refine below_set ?_ GE114.out|refine below_set ?_ GE115.out)|exact HB.out)⟩⟩
 case round =>
  clear H'
  try clear c1
  try clear p2
  try clear c4
  try clear hcz5_0
  try clear hcz5_1
  try clear hcz5_2
  try clear hcz5_3
  try clear hcz5_4
  try clear hfz5_0
  try clear hfz5_1
  try clear hfz5_2
  try clear hfz5_3
  try clear hfz5_4
  obtain ⟨x3_1, x9_1, rfl, HA, HK1, HO_3, BK114, BK115, HB⟩ := hrel
  cases gk with
  | zero => exact absurd HA.out (by simp [tree_Bare.l0])
  | succ k1 =>
   have H := HA.out
   clear HA
   simp only [tree_Bare.l0] at H
   by_cases c6 : x9_1 < (l0_4.length : Int)
   ·rw [if_pos c6] at H
    have c6b0 : decide (x9_1 < (l0_4.length : Int)) = true := decide_eq_true c6
    clear c6
    by_cases c7 : 0 ≤ x9_1
    ·rw [if_pos c7] at H
     have c7b0 : decide (0 ≤ x9_1) = true := decide_eq_true c7
     clear c7
     by_cases c8 : x9_1 < (l0_4.length : Int)
     ·rw [if_pos c8] at H
      have c8b0 : decide (x9_1 < (l0_4.length : Int)) = true := decide_eq_true c8
      clear c8
      replace H := Option.bind_eq_some_iff.mp H
      obtain ⟨⟨t118, t119, t120, t121, t122⟩, A90, H⟩ := H
      replace H : (if x3_1.length < 2199023255552 then (tree_Bare.l0 k1 (x3_1 ++ [(⟨t118, t119, t120, t121, t122⟩ : S24)]) l0_4 (l0_4.length : Int) (wrap64 (x9_1 + 1)) a0_0 a0_1 a0_2 a0_3 l0_4) else (none)) = some (r1, r2, r3, r4, r5) := H
      have A9 := Aside0.mk A90
      clear A90
      by_cases c10 : x3_1.length < 2199023255552
      ·rw [if_pos c10] at H
       have LMc10 := Aside0.mk c10
       clear c10
       obtain ⟨y125, hy125⟩ : ∃ y_ : List (S24), y_ = (x3_1 ++ [(⟨t118, t119, t120, t121, t122⟩ : S24)]) := ⟨_, rfl⟩
       replace H : (tree_Bare.l0 k1 y125 l0_4 (l0_4.length : Int) (wrap64 (x9_1 + 1)) a0_0 a0_1 a0_2 a0_3 l0_4) = some (r1, r2, r3, r4, r5) := by first | (rw [hy125]; with_reducible exact H) | (have H2_ := (Option.bind_some _ _).symm.trans H; rw [hy125]; with_reducible exact H2_) | (have H2_ := (Option.bind_some _ _).symm.trans H; with_reducible exact H2_) | with_reducible exact H | (rw [hy125]; exact H)|exact H
       have Ny125 := Aside0.mk hy125
       clear hy125
       have H' := Aside0.mk H
       clear H
       have p116 : 0 ≤ (x9_1 : Int) := of_decide_eq_true (by first|(with_reducible assumption) | assumption)
       have q116 : x9_1 < (l0_4.length : Int) := of_decide_eq_true (by first|(with_reducible assumption) | assumption)
       obtain ⟨ad116, A116_4, c116_4, e116, hx116_0, hx116_1, hx116_2, hx116_3, hx116_4, hl116_4, hi116_4⟩ := at_T24 HR0_4.out x9_1 p116 q116
       cases e116
       replace hx116_0 := (HB.out.cell (World.block_lt_of_cell? w _ hx116_0)).trans hx116_0
       replace hx116_1 := (HB.out.cell (World.block_lt_of_cell? w _ hx116_1)).trans hx116_1
       replace hx116_2 := (HB.out.cell (World.block_lt_of_cell? w _ hx116_2)).trans hx116_2
       replace hx116_3 := (HB.out.cell (World.block_lt_of_cell? w _ hx116_3)).trans hx116_3
       replace hx116_4 := (HB.out.cell (World.block_lt_of_cell? w _ hx116_4)).trans hx116_4
       have HR116_4 := Aside0.mk hi116_4
       have HC116_4 := Aside0.mk hl116_4
       clear hi116_4 hl116_4
       replace p116 := eq_true p116
       replace q116 := eq_true q116
       go_wp2_with (first|((with_reducible refine gate_dst (N := 5) rfl ?_); refine box_event ?hg (N := 5) ?hd (cs := #[.int .i64 0, .string (⟨#[]⟩ : ByteArray), .int .i64 0, .int .i64 0, .slice none 0 0]) (t := 24) ?hr ?_; (case hd => rfl); (case hg => rfl); (case hr => first|(go_simp; done)|(go_simp; rfl)); intro gb117 hg w11 hbox hb; have n0_ := Aside0.mk (Kd.R_below (Kd.R_elderB (by (with_reducible repeat (first|apply Kd.R_alloc|apply Kd.R_drewN|apply Kd.R_drew)); exact HO_3.out) gb117 (Nat.le_of_eq hg.symm)) hb); have n1_ := Aside0.mk (blk_below (g := gb114) (o := .cells #[.int .i64 a0_0, .string a0_1, .int .i64 a0_2, .int .i64 a0_3, .slice (some ad116) l0_4.length c0_4] 24 (0, 0)) (by (with_reducible repeat (first|refine blk_drewN ?_ _|refine blk_drew ?_|refine blk_alloc ?_ _)); exact BK114.out) hb); have n2_ := Aside0.mk (blk_below (g := gb115) (o := .cells #[.int .i64 0, .string (⟨#[]⟩ : ByteArray), .int .i64 0, .int .i64 0, .slice none 0 0] 24 (0, 0)) (by (with_reducible repeat (first|refine blk_drewN ?_ _|refine blk_drew ?_|refine blk_alloc ?_ _)); exact BK115.out) hb); have n3_ := Aside0.mk (below_step (by repeat (first|(with_reducible first|exact HB.out|apply below_alloc|apply pw_below_drewN|apply below_drew1|refine below_set ?_ GE114.out|refine below_set ?_ GE115.out)|exact HB.out)) hb); have n4_ := Aside0.mk (hbox); have n5_ := Aside0.mk ((by rw [hg]; exact (below_size (by repeat (first|(with_reducible first|exact HB.out|apply below_alloc|apply pw_below_drewN|apply below_drew1|refine below_set ?_ GE114.out|refine below_set ?_ GE115.out)|exact HB.out))) : w.heap.size ≤ gb117)); have n6_ := Aside0.mk ((by rw [hg]; exact (below_size (by repeat (first|(with_reducible first|exact HB.out|apply below_alloc|apply pw_below_drewN|apply below_drew1|refine below_set ?_ GE114.out|refine below_set ?_ GE115.out)|exact HB.out))) : w.heap.size ≤ gb117)); have n7_ := Aside0.mk ((by rw [hg]; exact Nat.ne_of_lt (blk_lt (g := gb114) (o := .cells #[.int .i64 a0_0, .string a0_1, .int .i64 a0_2, .int .i64 a0_3, .slice (some ad116) l0_4.length c0_4] 24 (0, 0)) (by (with_reducible repeat (first|refine blk_drewN ?_ _|refine blk_drew ?_|refine blk_alloc ?_ _)); exact BK114.out)) : gb114 ≠ gb117)); have n8_ := Aside0.mk ((by rw [hg]; exact Nat.ne_of_gt (blk_lt (g := gb114) (o := .cells #[.int .i64 a0_0, .string a0_1, .int .i64 a0_2, .int .i64 a0_3, .slice (some ad116) l0_4.length c0_4] 24 (0, 0)) (by (with_reducible repeat (first|refine blk_drewN ?_ _|refine blk_drew ?_|refine blk_alloc ?_ _)); exact BK114.out)) : gb117 ≠ gb114)); have n9_ := Aside0.mk ((by rw [hg]; exact Nat.ne_of_lt (blk_lt (g := gb115) (o := .cells #[.int .i64 0, .string (⟨#[]⟩ : ByteArray), .int .i64 0, .int .i64 0, .slice none 0 0] 24 (0, 0)) (by (with_reducible repeat (first|refine blk_drewN ?_ _|refine blk_drew ?_|refine blk_alloc ?_ _)); exact BK115.out)) : gb115 ≠ gb117)); have n10_ := Aside0.mk ((by rw [hg]; exact Nat.ne_of_gt (blk_lt (g := gb115) (o := .cells #[.int .i64 0, .string (⟨#[]⟩ : ByteArray), .int .i64 0, .int .i64 0, .slice none 0 0] 24 (0, 0)) (by (with_reducible repeat (first|refine blk_drewN ?_ _|refine blk_drew ?_|refine blk_alloc ?_ _)); exact BK115.out)) : gb117 ≠ gb115)); clear HO_3; clear BK114; clear BK115; clear HB; have HO_3 := n0_; have BK114 := n1_; have BK115 := n2_; have HB := n3_; have BK117 := n4_; have GW117 := n5_; have GE117 := n6_; have NB114_117 := n7_; have NB117_114 := n8_; have NB115_117 := n9_; have NB117_115 := n10_; clear n0_ n1_ n2_ n3_ n4_ n5_ n6_ n7_ n8_ n9_ n10_; clear hb hbox hg; have hnb12 := NB117_114.out; have hnc12 := NB114_117.out; have hnb13 := NB117_115.out; have hnc13 := NB115_117.out; have hcz14_0 : w11.cell? ⟨gb117, 0, none⟩ = some (.int .i64 0) := (blk_cell BK117.out 0).trans rfl; have hcz14_1 : w11.cell? ⟨gb117, 1, none⟩ = some (.string (⟨#[]⟩ : ByteArray)) := (blk_cell BK117.out 1).trans rfl; have hcz14_2 : w11.cell? ⟨gb117, 2, none⟩ = some (.int .i64 0) := (blk_cell BK117.out 2).trans rfl; have hcz14_3 : w11.cell? ⟨gb117, 3, none⟩ = some (.int .i64 0) := (blk_cell BK117.out 3).trans rfl; have hcz14_4 : w11.cell? ⟨gb117, 4, none⟩ = some (.slice none 0 0) := (blk_cell BK117.out 4).trans rfl; have hfz14_0 := blk_frozen BK117.out 0; have hfz14_1 := blk_frozen BK117.out 1; have hfz14_2 := blk_frozen BK117.out 2; have hfz14_3 := blk_frozen BK117.out 3; have hfz14_4 := blk_frozen BK117.out 4) | ((with_reducible refine gate_callee (f := 13) rfl ?_); refine goesL_ (some 15) rfl rfl Tryz.func13 (by kernel_rfl) rfl #[.agg #[.int .i64 ((rd_T24 l0_4 x9_1).f0), .string ((rd_T24 l0_4 x9_1).f1), .int .i64 ((rd_T24 l0_4 x9_1).f2), .int .i64 ((rd_T24 l0_4 x9_1).f3), .slice A116_4 ((rd_T24 l0_4 x9_1).f4).length c116_4]] rfl (by (try simp only [List.map_toArray, List.map_cons, List.map_nil]); first|done|rfl|(simp only [List.length_drop, List.length_take]; rfl)) ?_; (with_reducible refine (ih k1 (by have := HK1.out; omega) ((rd_T24 l0_4 x9_1).f0) ((rd_T24 l0_4 x9_1).f1) ((rd_T24 l0_4 x9_1).f2) ((rd_T24 l0_4 x9_1).f3) _ _ ((rd_T24 l0_4 x9_1).f4) t118 t119 t120 t121 t122 _ ?side1 ?side2 A9.out).mono ?_); (case side1 => exact Kd.C_below HR116_4.out (by repeat (first|(with_reducible first|exact HB.out|apply below_alloc|apply pw_below_drewN|apply below_drew1|refine below_set ?_ GE114.out|refine below_set ?_ GE115.out|refine below_set ?_ GE117.out)|exact HB.out))); (case side2 => exact HC116_4.out); rintro e w15 ⟨v123, rfl, ho0, hb⟩; refine ⟨_, rfl, ?_⟩; have n0_ := Aside0.mk (Kd.R_elder' (by (with_reducible repeat (first|apply Kd.R_alloc|apply Kd.R_drewN|apply Kd.R_drew)); exact (Kd.R_mono (Kd.R_far (p := ⟨gb117, 4, none⟩) (Kd.R_far (p := ⟨gb117, 3, none⟩) (Kd.R_far (p := ⟨gb117, 2, none⟩) (Kd.R_far (p := ⟨gb117, 1, none⟩) (Kd.R_far (p := ⟨gb117, 0, none⟩) (Kd.R_mono HO_3.out (fun k_ hk => (⟨hk, hk.2⟩ : _ ∧ k_ ≠ gb117))) (fun _ hk => hk.2) (.int .i64 ((rd_T24 l0_4 x9_1).f0))) (fun _ hk => hk.2) (.string ((rd_T24 l0_4 x9_1).f1))) (fun _ hk => hk.2) (.int .i64 ((rd_T24 l0_4 x9_1).f2))) (fun _ hk => hk.2) (.int .i64 ((rd_T24 l0_4 x9_1).f3))) (fun _ hk => hk.2) (.slice A116_4 ((rd_T24 l0_4 x9_1).f4).length c116_4)) (fun _ h_ => h_.1))) (Kd.R_base ho0) hb); have n1_ := Aside0.mk (Kd.R_lower (Kd.R_newB (Kd.R_newB (Kd.R_newB (Kd.R_new' ho0 (Kd.R_lt (by (with_reducible repeat (first|apply Kd.R_alloc|apply Kd.R_drewN|apply Kd.R_drew)); exact (Kd.R_mono (Kd.R_far (p := ⟨gb117, 4, none⟩) (Kd.R_far (p := ⟨gb117, 3, none⟩) (Kd.R_far (p := ⟨gb117, 2, none⟩) (Kd.R_far (p := ⟨gb117, 1, none⟩) (Kd.R_far (p := ⟨gb117, 0, none⟩) (Kd.R_mono HO_3.out (fun k_ hk => (⟨hk, hk.2⟩ : _ ∧ k_ ≠ gb117))) (fun _ hk => hk.2) (.int .i64 ((rd_T24 l0_4 x9_1).f0))) (fun _ hk => hk.2) (.string ((rd_T24 l0_4 x9_1).f1))) (fun _ hk => hk.2) (.int .i64 ((rd_T24 l0_4 x9_1).f2))) (fun _ hk => hk.2) (.int .i64 ((rd_T24 l0_4 x9_1).f3))) (fun _ hk => hk.2) (.slice A116_4 ((rd_T24 l0_4 x9_1).f4).length c116_4)) (fun _ h_ => h_.1))))) (g := gb114) (o := .cells #[.int .i64 a0_0, .string a0_1, .int .i64 a0_2, .int .i64 a0_3, .slice (some ad116) l0_4.length c0_4] 24 (0, 0)) (by (with_reducible repeat (first|refine blk_drewN ?_ _|refine blk_drew ?_|refine blk_alloc ?_ _)); refine blk_far ?_ NB114_117.out _; (with_reducible repeat (first|refine blk_drewN ?_ _|refine blk_drew ?_|refine blk_alloc ?_ _)); refine blk_far ?_ NB114_117.out _; (with_reducible repeat (first|refine blk_drewN ?_ _|refine blk_drew ?_|refine blk_alloc ?_ _)); refine blk_far ?_ NB114_117.out _; (with_reducible repeat (first|refine blk_drewN ?_ _|refine blk_drew ?_|refine blk_alloc ?_ _)); refine blk_far ?_ NB114_117.out _; (with_reducible repeat (first|refine blk_drewN ?_ _|refine blk_drew ?_|refine blk_alloc ?_ _)); refine blk_far ?_ NB114_117.out _; (with_reducible repeat (first|refine blk_drewN ?_ _|refine blk_drew ?_|refine blk_alloc ?_ _)); exact BK114.out)) (g := gb115) (o := .cells #[.int .i64 0, .string (⟨#[]⟩ : ByteArray), .int .i64 0, .int .i64 0, .slice none 0 0] 24 (0, 0)) (by (with_reducible repeat (first|refine blk_drewN ?_ _|refine blk_drew ?_|refine blk_alloc ?_ _)); refine blk_far ?_ NB115_117.out _; (with_reducible repeat (first|refine blk_drewN ?_ _|refine blk_drew ?_|refine blk_alloc ?_ _)); refine blk_far ?_ NB115_117.out _; (with_reducible repeat (first|refine blk_drewN ?_ _|refine blk_drew ?_|refine blk_alloc ?_ _)); refine blk_far ?_ NB115_117.out _; (with_reducible repeat (first|refine blk_drewN ?_ _|refine blk_drew ?_|refine blk_alloc ?_ _)); refine blk_far ?_ NB115_117.out _; (with_reducible repeat (first|refine blk_drewN ?_ _|refine blk_drew ?_|refine blk_alloc ?_ _)); refine blk_far ?_ NB115_117.out _; (with_reducible repeat (first|refine blk_drewN ?_ _|refine blk_drew ?_|refine blk_alloc ?_ _)); exact BK115.out)) (g := gb117) (o := .cells #[.int .i64 ((rd_T24 l0_4 x9_1).f0), .string ((rd_T24 l0_4 x9_1).f1), .int .i64 ((rd_T24 l0_4 x9_1).f2), .int .i64 ((rd_T24 l0_4 x9_1).f3), .slice A116_4 ((rd_T24 l0_4 x9_1).f4).length c116_4] 24 (0, 0)) (by (with_reducible repeat (first|refine blk_drewN ?_ _|refine blk_drew ?_|refine blk_alloc ?_ _)); refine blk_put (cs := #[.int .i64 ((rd_T24 l0_4 x9_1).f0), .string ((rd_T24 l0_4 x9_1).f1), .int .i64 ((rd_T24 l0_4 x9_1).f2), .int .i64 ((rd_T24 l0_4 x9_1).f3), .slice none 0 0]) ?_ 4 _ rfl; (with_reducible repeat (first|refine blk_drewN ?_ _|refine blk_drew ?_|refine blk_alloc ?_ _)); refine blk_put (cs := #[.int .i64 ((rd_T24 l0_4 x9_1).f0), .string ((rd_T24 l0_4 x9_1).f1), .int .i64 ((rd_T24 l0_4 x9_1).f2), .int .i64 0, .slice none 0 0]) ?_ 3 _ rfl; (with_reducible repeat (first|refine blk_drewN ?_ _|refine blk_drew ?_|refine blk_alloc ?_ _)); refine blk_put (cs := #[.int .i64 ((rd_T24 l0_4 x9_1).f0), .string ((rd_T24 l0_4 x9_1).f1), .int .i64 0, .int .i64 0, .slice none 0 0]) ?_ 2 _ rfl; (with_reducible repeat (first|refine blk_drewN ?_ _|refine blk_drew ?_|refine blk_alloc ?_ _)); refine blk_put (cs := #[.int .i64 ((rd_T24 l0_4 x9_1).f0), .string (⟨#[]⟩ : ByteArray), .int .i64 0, .int .i64 0, .slice none 0 0]) ?_ 1 _ rfl; (with_reducible repeat (first|refine blk_drewN ?_ _|refine blk_drew ?_|refine blk_alloc ?_ _)); refine blk_put (cs := #[.int .i64 0, .string (⟨#[]⟩ : ByteArray), .int .i64 0, .int .i64 0, .slice none 0 0]) ?_ 0 _ rfl; (with_reducible repeat (first|refine blk_drewN ?_ _|refine blk_drew ?_|refine blk_alloc ?_ _)); exact BK117.out)) (below_size (by repeat (first|(with_reducible first|exact HB.out|apply below_alloc|apply pw_below_drewN|apply below_drew1|refine below_set ?_ GE114.out|refine below_set ?_ GE115.out|refine below_set ?_ GE117.out)|exact HB.out)))); have n2_ := Aside0.mk (blk_below (g := gb114) (o := .cells #[.int .i64 a0_0, .string a0_1, .int .i64 a0_2, .int .i64 a0_3, .slice (some ad116) l0_4.length c0_4] 24 (0, 0)) (by (with_reducible repeat (first|refine blk_drewN ?_ _|refine blk_drew ?_|refine blk_alloc ?_ _)); refine blk_far ?_ NB114_117.out _; (with_reducible repeat (first|refine blk_drewN ?_ _|refine blk_drew ?_|refine blk_alloc ?_ _)); refine blk_far ?_ NB114_117.out _; (with_reducible repeat (first|refine blk_drewN ?_ _|refine blk_drew ?_|refine blk_alloc ?_ _)); refine blk_far ?_ NB114_117.out _; (with_reducible repeat (first|refine blk_drewN ?_ _|refine blk_drew ?_|refine blk_alloc ?_ _)); refine blk_far ?_ NB114_117.out _; (with_reducible repeat (first|refine blk_drewN ?_ _|refine blk_drew ?_|refine blk_alloc ?_ _)); refine blk_far ?_ NB114_117.out _; (with_reducible repeat (first|refine blk_drewN ?_ _|refine blk_drew ?_|refine blk_alloc ?_ _)); exact BK114.out) hb); have n3_ := Aside0.mk (blk_below (g := gb115) (o := .cells #[.int .i64 0, .string (⟨#[]⟩ : ByteArray), .int .i64 0, .int .i64 0, .slice none 0 0] 24 (0, 0)) (by (with_reducible repeat (first|refine blk_drewN ?_ _|refine blk_drew ?_|refine blk_alloc ?_ _)); refine blk_far ?_ NB115_117.out _; (with_reducible repeat (first|refine blk_drewN ?_ _|refine blk_drew ?_|refine blk_alloc ?_ _)); refine blk_far ?_ NB115_117.out _; (with_reducible repeat (first|refine blk_drewN ?_ _|refine blk_drew ?_|refine blk_alloc ?_ _)); refine blk_far ?_ NB115_117.out _; (with_reducible repeat (first|refine blk_drewN ?_ _|refine blk_drew ?_|refine blk_alloc ?_ _)); refine blk_far ?_ NB115_117.out _; (with_reducible repeat (first|refine blk_drewN ?_ _|refine blk_drew ?_|refine blk_alloc ?_ _)); refine blk_far ?_ NB115_117.out _; (with_reducible repeat (first|refine blk_drewN ?_ _|refine blk_drew ?_|refine blk_alloc ?_ _)); exact BK115.out) hb); have n4_ := Aside0.mk (blk_below (g := gb117) (o := .cells #[.int .i64 ((rd_T24 l0_4 x9_1).f0), .string ((rd_T24 l0_4 x9_1).f1), .int .i64 ((rd_T24 l0_4 x9_1).f2), .int .i64 ((rd_T24 l0_4 x9_1).f3), .slice A116_4 ((rd_T24 l0_4 x9_1).f4).length c116_4] 24 (0, 0)) (by (with_reducible repeat (first|refine blk_drewN ?_ _|refine blk_drew ?_|refine blk_alloc ?_ _)); refine blk_put (cs := #[.int .i64 ((rd_T24 l0_4 x9_1).f0), .string ((rd_T24 l0_4 x9_1).f1), .int .i64 ((rd_T24 l0_4 x9_1).f2), .int .i64 ((rd_T24 l0_4 x9_1).f3), .slice none 0 0]) ?_ 4 _ rfl; (with_reducible repeat (first|refine blk_drewN ?_ _|refine blk_drew ?_|refine blk_alloc ?_ _)); refine blk_put (cs := #[.int .i64 ((rd_T24 l0_4 x9_1).f0), .string ((rd_T24 l0_4 x9_1).f1), .int .i64 ((rd_T24 l0_4 x9_1).f2), .int .i64 0, .slice none 0 0]) ?_ 3 _ rfl; (with_reducible repeat (first|refine blk_drewN ?_ _|refine blk_drew ?_|refine blk_alloc ?_ _)); refine blk_put (cs := #[.int .i64 ((rd_T24 l0_4 x9_1).f0), .string ((rd_T24 l0_4 x9_1).f1), .int .i64 0, .int .i64 0, .slice none 0 0]) ?_ 2 _ rfl; (with_reducible repeat (first|refine blk_drewN ?_ _|refine blk_drew ?_|refine blk_alloc ?_ _)); refine blk_put (cs := #[.int .i64 ((rd_T24 l0_4 x9_1).f0), .string (⟨#[]⟩ : ByteArray), .int .i64 0, .int .i64 0, .slice none 0 0]) ?_ 1 _ rfl; (with_reducible repeat (first|refine blk_drewN ?_ _|refine blk_drew ?_|refine blk_alloc ?_ _)); refine blk_put (cs := #[.int .i64 0, .string (⟨#[]⟩ : ByteArray), .int .i64 0, .int .i64 0, .slice none 0 0]) ?_ 0 _ rfl; (with_reducible repeat (first|refine blk_drewN ?_ _|refine blk_drew ?_|refine blk_alloc ?_ _)); exact BK117.out) hb); have n5_ := Aside0.mk (below_step (by repeat (first|(with_reducible first|exact HB.out|apply below_alloc|apply pw_below_drewN|apply below_drew1|refine below_set ?_ GE114.out|refine below_set ?_ GE115.out|refine below_set ?_ GE117.out)|exact HB.out)) hb); clear HO_3; clear BK114; clear BK115; clear BK117; clear HB; have HO_3 := n0_; have HO124 := n1_; have BK114 := n2_; have BK115 := n3_; have BK117 := n4_; have HB := n5_; clear n0_ n1_ n2_ n3_ n4_ n5_; (try clear hb); (try clear hb2); (try clear hk); (try clear hi); (try clear ho0); obtain ⟨Ao17, co17, eo17⟩ := Kd.R_slice HO124.out; subst eo17) | ((with_reducible refine gate_builtin (b := .append) (xs := #[.tmp 13, .tmp 16]) rfl ?_); at_builtin; refine Kd.R_append k24 (w0 := w) w.heap.size rfl (.tmp 13) (.tmp 16) 22 24 (.agg #[(.int .i64 0), (.string ⟨#[]⟩), (.int .i64 0), (.int .i64 0), (.slice none 0 0)]) 64 rfl Tryz.underlying22 info24 rfl (by decide) (by omega) u3 x3_1 (⟨t118, t119, t120, t121, t122⟩ : S24) [.int .i64 t118, .string t119, .int .i64 t120, .int .i64 t121, .slice Ao17 t122.length co17] (fun k_ => k_ ≠ gb114 ∧ k_ ≠ gb115 ∧ k_ ≠ gb117) (fun k_ => ((fun k_ => k_ ≠ gb114 ∧ k_ ≠ gb115 ∧ k_ ≠ gb117)) k_ ∧ some k_ ≠ (u3 : Value).ownBlock) rfl rfl ?aP (fun _ hk => hk) ?aF ?aO ?aB ?aS ?aL ?_; (case aP => exact k24_mkM _ _ _ (⟨t118, t119, t120, t121, t122⟩ : S24) (Kd.R_mono (HO124.out) (fun k_ hk => ⟨⟨hk.1.1.2, ⟨hk.1.2, hk.2⟩⟩, hk.1.1.1.2⟩))); (case aB => exact (by repeat (first|(with_reducible first|exact HB.out|apply below_alloc|apply pw_below_drewN|apply below_drew1|refine below_set ?_ GE114.out|refine below_set ?_ GE115.out|refine below_set ?_ GE117.out)|exact HB.out))); (case aF => exact (fun k_ hk => ⟨Kd.freshB (g := gb114) (o := .cells #[.int .i64 a0_0, .string a0_1, .int .i64 a0_2, .int .i64 a0_3, .slice (some ad116) l0_4.length c0_4] 24 (0, 0)) (by (with_reducible repeat (first|refine blk_drewN ?_ _|refine blk_drew ?_|refine blk_alloc ?_ _)); exact BK114.out) k_ hk, Kd.freshB (g := gb115) (o := .cells #[.int .i64 0, .string (⟨#[]⟩ : ByteArray), .int .i64 0, .int .i64 0, .slice none 0 0] 24 (0, 0)) (by (with_reducible repeat (first|refine blk_drewN ?_ _|refine blk_drew ?_|refine blk_alloc ?_ _)); exact BK115.out) k_ hk, Kd.freshB (g := gb117) (o := .cells #[.int .i64 ((rd_T24 l0_4 x9_1).f0), .string ((rd_T24 l0_4 x9_1).f1), .int .i64 ((rd_T24 l0_4 x9_1).f2), .int .i64 ((rd_T24 l0_4 x9_1).f3), .slice A116_4 ((rd_T24 l0_4 x9_1).f4).length c116_4] 24 (0, 0)) (by (with_reducible repeat (first|refine blk_drewN ?_ _|refine blk_drew ?_|refine blk_alloc ?_ _)); exact BK117.out) k_ hk⟩)); (case aO => exact (by (with_reducible repeat (first|apply Kd.R_alloc|apply Kd.R_drewN|apply Kd.R_drew)); exact Kd.R_mono HO_3.out (fun _ hk => ⟨hk.1.1.1, ⟨hk.1.1.2, hk.1.2⟩⟩))); (case aS => exact (below_size (by repeat (first|(with_reducible first|exact HB.out|apply below_alloc|apply pw_below_drewN|apply below_drew1|refine below_set ?_ GE114.out|refine below_set ?_ GE115.out|refine below_set ?_ GE117.out)|exact HB.out)))); (case aL => have := LMc10.out; omega); intro v126 w16 ho hb hg hat; rw [← Ny125.out] at ho; have n0_ := Aside0.mk (blk_grown (g := gb114) (o := .cells #[.int .i64 a0_0, .string a0_1, .int .i64 a0_2, .int .i64 a0_3, .slice (some ad116) l0_4.length c0_4] 24 (0, 0)) (by (with_reducible repeat (first|refine blk_drewN ?_ _|refine blk_drew ?_|refine blk_alloc ?_ _)); exact BK114.out) hg (Kd.R_away HO_3.out (fun _ hk => hk.1.1.1))); have n1_ := Aside0.mk (blk_grown (g := gb115) (o := .cells #[.int .i64 0, .string (⟨#[]⟩ : ByteArray), .int .i64 0, .int .i64 0, .slice none 0 0] 24 (0, 0)) (by (with_reducible repeat (first|refine blk_drewN ?_ _|refine blk_drew ?_|refine blk_alloc ?_ _)); exact BK115.out) hg (Kd.R_away HO_3.out (fun _ hk => hk.1.1.2))); have n2_ := Aside0.mk (blk_grown (g := gb117) (o := .cells #[.int .i64 ((rd_T24 l0_4 x9_1).f0), .string ((rd_T24 l0_4 x9_1).f1), .int .i64 ((rd_T24 l0_4 x9_1).f2), .int .i64 ((rd_T24 l0_4 x9_1).f3), .slice A116_4 ((rd_T24 l0_4 x9_1).f4).length c116_4] 24 (0, 0)) (by (with_reducible repeat (first|refine blk_drewN ?_ _|refine blk_drew ?_|refine blk_alloc ?_ _)); exact BK117.out) hg (Kd.R_away HO_3.out (fun _ hk => hk.1.2))); have n3_ := Aside0.mk (hb); have n4_ := Aside0.mk (ho); clear BK114; clear BK115; clear BK117; clear HB; clear HO_3; clear HO124; have BK114 := n0_; have BK115 := n1_; have BK117 := n2_; have HB := n3_; have HO127 := n4_; clear n0_ n1_ n2_ n3_ n4_; clear ho hb hg hat))
       go_roundg k1
       case measure => have := HK1.out; omega
       case rel => exact ⟨(y125), (wrap64 (x9_1 + 1)), (by first|rfl|(simp; done)|(simp [*]; done)), H', ⟨by have := HK1.out; omega⟩, ⟨by (with_reducible repeat (first|apply Kd.R_alloc|apply Kd.R_drewN|apply Kd.R_drew)); exact Kd.R_mono HO127.out (fun _ hk => ⟨hk.1, hk.2.1⟩)⟩, ⟨by (with_reducible repeat (first|refine blk_drewN ?_ _|refine blk_drew ?_|refine blk_alloc ?_ _)); exact BK114.out⟩, ⟨by (with_reducible repeat (first|refine blk_drewN ?_ _|refine blk_drew ?_|refine blk_alloc ?_ _)); exact BK115.out⟩, ⟨by repeat (first|(with_reducible first|exact HB.out|apply below_alloc|apply pw_below_drewN|apply below_drew1|refine below_set ?_ GE114.out|refine below_set ?_ GE115.out|refine below_set ?_ GE117.out)|exact HB.out)⟩⟩
      ·rw [if_neg c10] at H
       exact absurd H (by simp)
     ·rw [if_neg c8] at H
      exact absurd H (by simp)
    ·rw [if_neg c7] at H
     exact absurd H (by simp)
   ·rw [if_neg c6] at H
    have c6b0 : decide (x9_1 < (l0_4.length : Int)) = false := decide_eq_false c6
    clear c6
    simp only [Option.some.injEq, Prod.mk.injEq] at H
    obtain ⟨rfl, rfl, rfl, rfl, rfl⟩ := H
    have hnb18 := NB114_115.out
    have hnc18 := NB115_114.out
    have hcz19_0 : wr.cell? ⟨gb114, 0, none⟩ = some (.int .i64 a0_0) := (blk_cell BK114.out 0).trans rfl
    have hcz19_1 : wr.cell? ⟨gb114, 1, none⟩ = some (.string a0_1) := (blk_cell BK114.out 1).trans rfl
    have hcz19_2 : wr.cell? ⟨gb114, 2, none⟩ = some (.int .i64 a0_2) := (blk_cell BK114.out 2).trans rfl
    have hcz19_3 : wr.cell? ⟨gb114, 3, none⟩ = some (.int .i64 a0_3) := (blk_cell BK114.out 3).trans rfl
    have hcz19_4 : wr.cell? ⟨gb114, 4, none⟩ = some (.slice A0_4 l0_4.length c0_4) := (blk_cell BK114.out 4).trans rfl
    have hfz19_0 := blk_frozen BK114.out 0
    have hfz19_1 := blk_frozen BK114.out 1
    have hfz19_2 := blk_frozen BK114.out 2
    have hfz19_3 := blk_frozen BK114.out 3
    have hfz19_4 := blk_frozen BK114.out 4
    obtain ⟨Ao20, co20, eo20⟩ := Kd.R_slice HO_3.out
    subst eo20
    have hcz21_0 : wr.cell? ⟨gb115, 0, none⟩ = some (.int .i64 0) := (blk_cell BK115.out 0).trans rfl
    have hcz21_1 : wr.cell? ⟨gb115, 1, none⟩ = some (.string (⟨#[]⟩ : ByteArray)) := (blk_cell BK115.out 1).trans rfl
    have hcz21_2 : wr.cell? ⟨gb115, 2, none⟩ = some (.int .i64 0) := (blk_cell BK115.out 2).trans rfl
    have hcz21_3 : wr.cell? ⟨gb115, 3, none⟩ = some (.int .i64 0) := (blk_cell BK115.out 3).trans rfl
    have hcz21_4 : wr.cell? ⟨gb115, 4, none⟩ = some (.slice none 0 0) := (blk_cell BK115.out 4).trans rfl
    have hfz21_0 := blk_frozen BK115.out 0
    have hfz21_1 := blk_frozen BK115.out 1
    have hfz21_2 := blk_frozen BK115.out 2
    have hfz21_3 := blk_frozen BK115.out 3
    have hfz21_4 := blk_frozen BK115.out 4
    go_wp2
    refine bodyPost_ret (results_cell_row rfl _ _ gb115 24 #[.int .i64 a0_0, .string a0_1, .int .i64 a0_2, .int .i64 0, .slice Ao20 x3_1.length co20] (0, 0) _ rfl (by (with_reducible repeat (first|refine blk_drewN ?_ _|refine blk_drew ?_|refine blk_alloc ?_ _)); refine blk_put (cs := #[.int .i64 a0_0, .string a0_1, .int .i64 a0_2, .int .i64 0, .slice none 0 0]) ?_ 4 _ rfl; (with_reducible repeat (first|refine blk_drewN ?_ _|refine blk_drew ?_|refine blk_alloc ?_ _)); refine blk_put (cs := #[.int .i64 a0_0, .string a0_1, .int .i64 a0_2, .int .i64 0, .slice none 0 0]) ?_ 3 _ rfl; (with_reducible repeat (first|refine blk_drewN ?_ _|refine blk_drew ?_|refine blk_alloc ?_ _)); refine blk_put (cs := #[.int .i64 a0_0, .string a0_1, .int .i64 0, .int .i64 0, .slice none 0 0]) ?_ 2 _ rfl; (with_reducible repeat (first|refine blk_drewN ?_ _|refine blk_drew ?_|refine blk_alloc ?_ _)); refine blk_put (cs := #[.int .i64 a0_0, .string (⟨#[]⟩ : ByteArray), .int .i64 0, .int .i64 0, .slice none 0 0]) ?_ 1 _ rfl; (with_reducible repeat (first|refine blk_drewN ?_ _|refine blk_drew ?_|refine blk_alloc ?_ _)); refine blk_put (cs := #[.int .i64 0, .string (⟨#[]⟩ : ByteArray), .int .i64 0, .int .i64 0, .slice none 0 0]) ?_ 0 _ rfl; (with_reducible repeat (first|refine blk_drewN ?_ _|refine blk_drew ?_|refine blk_alloc ?_ _)); refine blk_far ?_ NB115_114.out _; (with_reducible repeat (first|refine blk_drewN ?_ _|refine blk_drew ?_|refine blk_alloc ?_ _)); refine blk_far ?_ NB115_114.out _; (with_reducible repeat (first|refine blk_drewN ?_ _|refine blk_drew ?_|refine blk_alloc ?_ _)); exact BK115.out) Tryz.underlying24 rfl (by kernel_rfl)) rfl ?_
    exact ⟨_, by first|rfl|(simp [errW_none, errW_some] <;> rfl)|(simp [*, errW_none, errW_some] <;> rfl), by (with_reducible repeat (first|apply Kd.R_alloc|apply Kd.R_drewN|apply Kd.R_drew)); exact Kd.R_mono (Kd.R_far (p := ⟨gb115, 4, none⟩) (Kd.R_far (p := ⟨gb115, 3, none⟩) (Kd.R_far (p := ⟨gb115, 2, none⟩) (Kd.R_far (p := ⟨gb115, 1, none⟩) (Kd.R_far (p := ⟨gb115, 0, none⟩) (Kd.R_far (p := ⟨gb114, 4, none⟩) (Kd.R_far (p := ⟨gb114, 3, none⟩) (Kd.R_mono (Kd.R_mono HO_3.out (fun k_ hk => (⟨hk, hk.1⟩ : _ ∧ k_ ≠ gb114))) (fun k_ hk => (⟨hk, hk.1.2⟩ : _ ∧ k_ ≠ gb115))) (fun _ hk => hk.1.2) (.int .i64 0)) (fun _ hk => hk.1.2) (.slice Ao20 x3_1.length co20)) (fun _ hk => hk.2) (.int .i64 a0_0)) (fun _ hk => hk.2) (.string a0_1)) (fun _ hk => hk.2) (.int .i64 a0_2)) (fun _ hk => hk.2) (.int .i64 0)) (fun _ hk => hk.2) (.slice Ao20 x3_1.length co20)) (fun _ hk => trivial), by repeat (first|(with_reducible first|exact HB.out|apply below_alloc|apply pw_below_drewN|apply below_drew1|refine below_set ?_ GE114.out|refine below_set ?_ GE115.out)|exact HB.out)⟩

end Go.Proofs.YthdkjfhpbigdpaaGreatDoor.Q

namespace Go.Proofs.YthdkjfhpbigdpaaGreatDoor.Q
open Go.RowKit Go.Proofs.YthdkjfhpbigdpaaGreatDoorW.PrintWords Go.Proofs.YthdkjfhpbigdpaaGreatDoorW.PrintLast Go.Proofs.YthdkjfhpbigdpaaGreatDoorW.PrintMore
attribute [local go_sem] max2_int min2_int max_two min_two max_three min_three max_four min_four
set_option linter.unusedVariables false
set_option linter.unusedSimpArgs false

def gossamerlaw02_same.f  : Option (Int × ByteArray × Int × Int × (List (S24))) := some (3, (⟨#[]⟩ : ByteArray), 0, 0, (([(⟨2, (⟨#[120]⟩ : ByteArray), 0, 1, (([(⟨1, (⟨#[120]⟩ : ByteArray), 0, 3, ([] : List (S24))⟩ : S24)] : List (S24)))⟩ : S24), (⟨9, (⟨#[]⟩ : ByteArray), 7, 6, ([] : List (S24))⟩ : S24)] : List (S24))))
set_option maxHeartbeats 8000000 in
set_option maxRecDepth 100000 in
theorem gossamerlaw02_same.calls  (r1 : Int) (r2 : ByteArray) (r3 : Int) (r4 : Int) (r5 : List (S24)) (w : World) (h : gossamerlaw02_same.f  = some (r1, r2, r3, r4, r5)) :
  Calls Tryz.prog 16 #[] w fun e w' => ∃ v4_ : Value, e = .returned (.agg #[.int .i64 r1, .string r2, .int .i64 r3, .int .i64 r4, v4_]) ∧ Kd.N k24 24 w' w.heap.size (fun k_ => (w.heap.size ≤ k_)) v4_ r5 ∧ Below w.heap.size w w' := by
 have hu24 := Tryz.underlying24
 have HB := Aside0.mk (Below.refl w.heap.size w)
 have H : (some (3, (⟨#[]⟩ : ByteArray), 0, 0, (([(⟨2, (⟨#[120]⟩ : ByteArray), 0, 1, (([(⟨1, (⟨#[120]⟩ : ByteArray), 0, 3, ([] : List (S24))⟩ : S24)] : List (S24)))⟩ : S24), (⟨9, (⟨#[]⟩ : ByteArray), 7, 6, ([] : List (S24))⟩ : S24)] : List (S24))))) = some (r1, r2, r3, r4, r5) := h
 clear h
 obtain ⟨y129, hy129⟩ : ∃ y_ : List (S24), y_ = (([(⟨1, (⟨#[120]⟩ : ByteArray), 0, 3, ([] : List (S24))⟩ : S24)] : List (S24))) := ⟨_, rfl⟩
 replace H : (some (3, (⟨#[]⟩ : ByteArray), 0, 0, (([(⟨2, (⟨#[120]⟩ : ByteArray), 0, 1, y129⟩ : S24), (⟨9, (⟨#[]⟩ : ByteArray), 7, 6, ([] : List (S24))⟩ : S24)] : List (S24))))) = some (r1, r2, r3, r4, r5) := by first | (rw [hy129]; with_reducible exact H) | (have H2_ := (Option.bind_some _ _).symm.trans H; rw [hy129]; with_reducible exact H2_) | (have H2_ := (Option.bind_some _ _).symm.trans H; with_reducible exact H2_) | with_reducible exact H | (rw [hy129]; exact H)|exact H
 have Ny129 := Aside0.mk hy129
 clear hy129
 obtain ⟨y132, hy132⟩ : ∃ y_ : List (S24), y_ = (([(⟨2, (⟨#[120]⟩ : ByteArray), 0, 1, y129⟩ : S24), (⟨9, (⟨#[]⟩ : ByteArray), 7, 6, ([] : List (S24))⟩ : S24)] : List (S24))) := ⟨_, rfl⟩
 replace H : (some (3, (⟨#[]⟩ : ByteArray), 0, 0, y132)) = some (r1, r2, r3, r4, r5) := by first | (rw [hy132]; with_reducible exact H) | (have H2_ := (Option.bind_some _ _).symm.trans H; rw [hy132]; with_reducible exact H2_) | (have H2_ := (Option.bind_some _ _).symm.trans H; with_reducible exact H2_) | with_reducible exact H | (rw [hy132]; exact H)|exact H
 have Ny132 := Aside0.mk hy132
 clear hy132
 simp only [Option.some.injEq, Prod.mk.injEq] at H
 obtain ⟨rfl, rfl, rfl, rfl, rfl⟩ := H
 go_enter Tryz.func16, Tryz.ntmps16
 go_wp2_with (first|((with_reducible refine gate_dst (N := 0) rfl ?_); refine box_event ?hg (N := 0) ?hd (cs := #[.int .i64 0, .string (⟨#[]⟩ : ByteArray), .int .i64 0, .int .i64 0, .slice none 0 0]) (t := 24) ?hr ?_; (case hd => rfl); (case hg => rfl); (case hr => first|(go_simp; done)|(go_simp; rfl)); intro gb128 hg w1 hbox hb; have n0_ := Aside0.mk (below_step (by repeat (first|(with_reducible first|exact HB.out|apply below_alloc|apply pw_below_drewN|apply below_drew1)|exact HB.out)) hb); have n1_ := Aside0.mk (hbox); have n2_ := Aside0.mk ((by rw [hg]; exact (below_size (by repeat (first|(with_reducible first|exact HB.out|apply below_alloc|apply pw_below_drewN|apply below_drew1)|exact HB.out))) : w.heap.size ≤ gb128)); have n3_ := Aside0.mk ((by rw [hg]; exact (below_size (by repeat (first|(with_reducible first|exact HB.out|apply below_alloc|apply pw_below_drewN|apply below_drew1)|exact HB.out))) : w.heap.size ≤ gb128)); clear HB; have HB := n0_; have BK128 := n1_; have GW128 := n2_; have GE128 := n3_; clear n0_ n1_ n2_ n3_; clear hb hbox hg) | ((with_reducible refine gate_dst (N := 2) rfl ?_); refine Kd.N_lit k24 _ 24 ?hg (N' := 2) ?hd (xs := ([(⟨1, (⟨#[120]⟩ : ByteArray), 0, 3, ([] : List (S24))⟩ : S24)] : List (S24))) (inner := [.int .i64 1, .string (⟨#[120]⟩ : ByteArray), .int .i64 0, .int .i64 3, .slice none 0 0]) (ok := (fun k_ => (w.heap.size ≤ k_) ∧ k_ ≠ gb128)) (okp := (fun k_ => (w.heap.size ≤ k_) ∧ k_ ≠ gb128)) ?hr ?hp (fun _ hk => hk) ((show ∀ k_, w1.heap.size ≤ k_ → (fun k_ => (w.heap.size ≤ k_) ∧ k_ ≠ gb128) k_ from fun k_ hk => ⟨(Nat.le_trans (below_size (by repeat (first|(with_reducible first|exact HB.out|apply below_alloc|apply pw_below_drewN|apply below_drew1|refine below_set ?_ GE128.out)|exact HB.out))) hk), Kd.freshB (g := gb128) (o := .cells #[.int .i64 0, .string (⟨#[]⟩ : ByteArray), .int .i64 0, .int .i64 0, .slice none 0 0] 24 (0, 0)) (by (with_reducible repeat (first|refine blk_drewN ?_ _|refine blk_drew ?_|refine blk_alloc ?_ _)); exact BK128.out) k_ hk⟩) _ (Nat.le_refl _)) (Below.refl _ _) (Nat.le_refl _) (by simp) ?_; (case hd => rfl); (case hg => rfl); (case hr => first|(go_simp; done)|(go_simp; rfl)); (case hp => exact (Reps.c5 (show Kd.FK k24 _ _ (⟨1, (⟨#[120]⟩ : ByteArray), 0, 3, ([] : List (S24))⟩ : S24) [.int .i64 1, .string (⟨#[120]⟩ : ByteArray), .int .i64 0, .int .i64 3, .slice none 0 0] from (k24_mkF _ _ (⟨1, (⟨#[120]⟩ : ByteArray), 0, 3, ([] : List (S24))⟩ : S24) (Nat.le_refl _) (Kd.F_nil _ _ _))) (Reps.none _ _))); intro v130 w2 ho3 hb hg_ hnew_; clear hg_ hnew_; (first|rw [← Ny129.out] at ho3|(simp only [Int.reduceToNat] at ho3; rw [← Ny129.out] at ho3)); have n0_ := Aside0.mk (Kd.N_lower ho3 (below_size (by repeat (first|(with_reducible first|exact HB.out|apply below_alloc|apply pw_below_drewN|apply below_drew1|refine below_set ?_ GE128.out)|exact HB.out)))); have n1_ := Aside0.mk (blk_below (g := gb128) (o := .cells #[.int .i64 0, .string (⟨#[]⟩ : ByteArray), .int .i64 0, .int .i64 0, .slice none 0 0] 24 (0, 0)) (by (with_reducible repeat (first|refine blk_drewN ?_ _|refine blk_drew ?_|refine blk_alloc ?_ _)); exact BK128.out) hb); have n2_ := Aside0.mk (below_step (by repeat (first|(with_reducible first|exact HB.out|apply below_alloc|apply pw_below_drewN|apply below_drew1|refine below_set ?_ GE128.out)|exact HB.out)) hb); clear BK128; clear HB; have HO131 := n0_; have BK128 := n1_; have HB := n2_; clear n0_ n1_ n2_; clear hb ho3; obtain ⟨Ao4, co4, eo4⟩ := Kd.N_slice HO131.out; subst eo4) | ((with_reducible refine gate_dst (N := 5) rfl ?_); refine Kd.N_lit k24 _ 24 ?hg (N' := 5) ?hd (xs := ([(⟨2, (⟨#[120]⟩ : ByteArray), 0, 1, y129⟩ : S24), (⟨9, (⟨#[]⟩ : ByteArray), 7, 6, ([] : List (S24))⟩ : S24)] : List (S24))) (inner := [.int .i64 2, .string (⟨#[120]⟩ : ByteArray), .int .i64 0, .int .i64 1, .slice Ao4 y129.length co4, .int .i64 9, .string (⟨#[]⟩ : ByteArray), .int .i64 7, .int .i64 6, .slice none 0 0]) (ok := (fun k_ => (w.heap.size ≤ k_) ∧ k_ ≠ gb128)) (okp := (fun k_ => (w.heap.size ≤ k_) ∧ k_ ≠ gb128)) ?hr ?hp (fun _ hk => hk) ((show ∀ k_, w2.heap.size ≤ k_ → (fun k_ => (w.heap.size ≤ k_) ∧ k_ ≠ gb128) k_ from fun k_ hk => ⟨(Nat.le_trans (below_size (by repeat (first|(with_reducible first|exact HB.out|apply below_alloc|apply pw_below_drewN|apply below_drew1|refine below_set ?_ GE128.out)|exact HB.out))) hk), Kd.freshB (g := gb128) (o := .cells #[.int .i64 0, .string (⟨#[]⟩ : ByteArray), .int .i64 0, .int .i64 0, .slice none 0 0] 24 (0, 0)) (by (with_reducible repeat (first|refine blk_drewN ?_ _|refine blk_drew ?_|refine blk_alloc ?_ _)); exact BK128.out) k_ hk⟩) _ (Nat.le_refl _)) (Below.refl _ _) (Nat.le_refl _) (by simp) ?_; (case hd => rfl); (case hg => rfl); (case hr => first|(go_simp; done)|(go_simp; rfl)); (case hp => exact (Reps.c5 (show Kd.FK k24 _ _ (⟨2, (⟨#[120]⟩ : ByteArray), 0, 1, y129⟩ : S24) [.int .i64 2, .string (⟨#[120]⟩ : ByteArray), .int .i64 0, .int .i64 1, .slice Ao4 y129.length co4] from (k24_mkF _ _ (⟨2, (⟨#[120]⟩ : ByteArray), 0, 1, y129⟩ : S24) (Kd.N_reads' (Kd.N_mono (ok' := (fun k_ => (w.heap.size ≤ k_) ∧ k_ ≠ gb128)) (HO131.out) (fun k_ hk => ⟨hk.1, hk.2⟩))).2.1 (Kd.N_F (Kd.N_mono (ok' := (fun k_ => (w.heap.size ≤ k_) ∧ k_ ≠ gb128)) (HO131.out) (fun k_ hk => ⟨hk.1, hk.2⟩))))) (Reps.c5 (show Kd.FK k24 _ _ (⟨9, (⟨#[]⟩ : ByteArray), 7, 6, ([] : List (S24))⟩ : S24) [.int .i64 9, .string (⟨#[]⟩ : ByteArray), .int .i64 7, .int .i64 6, .slice none 0 0] from (k24_mkF _ _ (⟨9, (⟨#[]⟩ : ByteArray), 7, 6, ([] : List (S24))⟩ : S24) (Nat.le_refl _) (Kd.F_nil _ _ _))) (Reps.none _ _)))); intro v133 w5 ho6 hb hg_ hnew_; clear hg_ hnew_; (first|rw [← Ny132.out] at ho6|(simp only [Int.reduceToNat] at ho6; rw [← Ny132.out] at ho6)); have n0_ := Aside0.mk (Kd.N_lower ho6 (below_size (by repeat (first|(with_reducible first|exact HB.out|apply below_alloc|apply pw_below_drewN|apply below_drew1|refine below_set ?_ GE128.out)|exact HB.out)))); have n1_ := Aside0.mk (blk_below (g := gb128) (o := .cells #[.int .i64 0, .string (⟨#[]⟩ : ByteArray), .int .i64 0, .int .i64 0, .slice none 0 0] 24 (0, 0)) (by (with_reducible repeat (first|refine blk_drewN ?_ _|refine blk_drew ?_|refine blk_alloc ?_ _)); exact BK128.out) hb); have n2_ := Aside0.mk (below_step (by repeat (first|(with_reducible first|exact HB.out|apply below_alloc|apply pw_below_drewN|apply below_drew1|refine below_set ?_ GE128.out)|exact HB.out)) hb); clear BK128; clear HB; clear HO131; have HO134 := n0_; have BK128 := n1_; have HB := n2_; clear n0_ n1_ n2_; clear hb ho6; obtain ⟨Ao7, co7, eo7⟩ := Kd.N_slice HO134.out; subst eo7; have hcz8_0 : w5.cell? ⟨gb128, 0, none⟩ = some (.int .i64 0) := (blk_cell BK128.out 0).trans rfl; have hcz8_1 : w5.cell? ⟨gb128, 1, none⟩ = some (.string (⟨#[]⟩ : ByteArray)) := (blk_cell BK128.out 1).trans rfl; have hcz8_2 : w5.cell? ⟨gb128, 2, none⟩ = some (.int .i64 0) := (blk_cell BK128.out 2).trans rfl; have hcz8_3 : w5.cell? ⟨gb128, 3, none⟩ = some (.int .i64 0) := (blk_cell BK128.out 3).trans rfl; have hcz8_4 : w5.cell? ⟨gb128, 4, none⟩ = some (.slice none 0 0) := (blk_cell BK128.out 4).trans rfl; have hfz8_0 := blk_frozen BK128.out 0; have hfz8_1 := blk_frozen BK128.out 1; have hfz8_2 := blk_frozen BK128.out 2; have hfz8_3 := blk_frozen BK128.out 3; have hfz8_4 := blk_frozen BK128.out 4))
 refine bodyPost_ret (results_cell_row rfl _ _ gb128 24 #[.int .i64 3, .string (⟨#[]⟩ : ByteArray), .int .i64 0, .int .i64 0, .slice Ao7 y132.length co7] (0, 0) _ rfl (by (with_reducible repeat (first|refine blk_drewN ?_ _|refine blk_drew ?_|refine blk_alloc ?_ _)); refine blk_put (cs := #[.int .i64 3, .string (⟨#[]⟩ : ByteArray), .int .i64 0, .int .i64 0, .slice none 0 0]) ?_ 4 _ rfl; (with_reducible repeat (first|refine blk_drewN ?_ _|refine blk_drew ?_|refine blk_alloc ?_ _)); refine blk_put (cs := #[.int .i64 3, .string (⟨#[]⟩ : ByteArray), .int .i64 0, .int .i64 0, .slice none 0 0]) ?_ 3 _ rfl; (with_reducible repeat (first|refine blk_drewN ?_ _|refine blk_drew ?_|refine blk_alloc ?_ _)); refine blk_put (cs := #[.int .i64 3, .string (⟨#[]⟩ : ByteArray), .int .i64 0, .int .i64 0, .slice none 0 0]) ?_ 2 _ rfl; (with_reducible repeat (first|refine blk_drewN ?_ _|refine blk_drew ?_|refine blk_alloc ?_ _)); refine blk_put (cs := #[.int .i64 3, .string (⟨#[]⟩ : ByteArray), .int .i64 0, .int .i64 0, .slice none 0 0]) ?_ 1 _ rfl; (with_reducible repeat (first|refine blk_drewN ?_ _|refine blk_drew ?_|refine blk_alloc ?_ _)); refine blk_put (cs := #[.int .i64 0, .string (⟨#[]⟩ : ByteArray), .int .i64 0, .int .i64 0, .slice none 0 0]) ?_ 0 _ rfl; (with_reducible repeat (first|refine blk_drewN ?_ _|refine blk_drew ?_|refine blk_alloc ?_ _)); exact BK128.out) Tryz.underlying24 rfl (by kernel_rfl)) rfl ?_
 exact ⟨_, by first|rfl|(simp [errW_none, errW_some] <;> rfl)|(simp [*, errW_none, errW_some] <;> rfl), by (with_reducible repeat (first|apply Kd.N_alloc|apply Kd.N_drewN|apply Kd.N_drew)); exact Kd.N_mono (Kd.N_far (p := ⟨gb128, 4, none⟩) (Kd.N_far (p := ⟨gb128, 3, none⟩) (Kd.N_far (p := ⟨gb128, 2, none⟩) (Kd.N_far (p := ⟨gb128, 1, none⟩) (Kd.N_far (p := ⟨gb128, 0, none⟩) (Kd.N_mono HO134.out (fun k_ hk => (⟨hk, hk.2⟩ : _ ∧ k_ ≠ gb128))) (fun _ hk => hk.2) (.int .i64 3)) (fun _ hk => hk.2) (.string (⟨#[]⟩ : ByteArray))) (fun _ hk => hk.2) (.int .i64 0)) (fun _ hk => hk.2) (.int .i64 0)) (fun _ hk => hk.2) (.slice Ao7 y132.length co7)) (fun _ hk => hk.1.1), by repeat (first|(with_reducible first|exact HB.out|apply below_alloc|apply pw_below_drewN|apply below_drew1|refine below_set ?_ GE128.out)|exact HB.out)⟩

end Go.Proofs.YthdkjfhpbigdpaaGreatDoor.Q

/- Plain Lean: the tokens of a text, as a function on its bytes. No program in sight. -/
namespace Go.Proofs.YthdkjfhpbigdpaaGreatDoor.HLex

def lower (c : UInt8) : Bool := decide (97 ≤ c.toNat) && decide (c.toNat ≤ 122)
def upper (c : UInt8) : Bool := decide (65 ≤ c.toNat) && decide (c.toNat ≤ 90)
def digit (c : UInt8) : Bool := decide (48 ≤ c.toNat) && decide (c.toNat ≤ 57)
def wordly (c : UInt8) : Bool := lower c || upper c || digit c
def blank (c : UInt8) : Bool := c == 32 || c == 10 || c == 9

def words : List (List UInt8) := [[108, 101, 116], [108, 101, 116, 114, 101, 99], [105, 110], [99, 97, 115, 101], [111, 102]]
def isWord (l : List UInt8) : Bool := words.contains l

def signs : List (List UInt8) := [[45, 62], [61, 61], [92], [46], [40], [41], [61], [123], [125], [124], [43], [45], [42], [47], [60]]

def num (l : List UInt8) : Nat := l.foldl (fun n c => 10 * n + (c.toNat - 48)) 0

structure Tok where
 kind : Nat
 text : List UInt8
 n : Nat
 pos : Nat
deriving DecidableEq, Repr

def named (w : List UInt8) : Except Nat (Nat × Nat) :=
 if (w.head?.map digit).getD false then
  if w.any (fun c => decide (57 < c.toNat)) then .error 10
  else if 18 < w.length ∨ 1 < w.length ∧ w.head? = some 48 then .error 11
  else .ok (3, num w)
 else if 16 < w.length then .error 11
 else if isWord w then .ok (4, 0)
 else if (w.head?.map upper).getD false then .ok (2, 0)
 else .ok (1, 0)

def first (l : List UInt8) : Except Nat (Nat × List UInt8 × Nat) :=
 let w := l.takeWhile wordly
 if w = [] then
  match signs.find? (fun s => s.isPrefixOf l) with
  | some s => .ok (5, s, 0)
  | none => .error 10
 else match named w with
  | .ok (k, n) => .ok (k, w, n)
  | .error e => .error e

def lexFrom : Nat → Nat → List UInt8 → Except (Nat × Nat) (List Tok)
 | 0, _, _ => .ok []
 | f + 1, pos, l =>
  let r := l.dropWhile blank
  let p := pos + (l.length - r.length)
  if r = [] then .ok []
  else match first r with
   | .error e => .error (p, e)
   | .ok (k, t, n) => match lexFrom f (p + t.length) (r.drop t.length) with
    | .ok ts => .ok (⟨k, t, n, p⟩ :: ts)
    | .error e => .error e

def lex (l : List UInt8) : Except (Nat × Nat) (List Tok) := lexFrom (l.length + 1) 0 l

end Go.Proofs.YthdkjfhpbigdpaaGreatDoor.HLex

/- Plain Lean: what the library's functions say (the shelf's own words), in the words of HLex. -/
namespace Go.Proofs.YthdkjfhpbigdpaaGreatDoor.HLex
open Go

theorem drop_cons_get (s : ByteArray) (i : Nat) (h : i < s.size) : s.data.toList.drop i = s[i] :: s.data.toList.drop (i + 1) := by
 have h' : i < s.data.toList.length := by simpa using h
 rw [List.drop_eq_getElem_cons h']
 rfl

theorem idxFrom (p : Nat → Bool) (q : UInt8 → Bool) (h1 : ∀ c : UInt8, c.toNat < 128 → p c.toNat = q c) (h2 : ∀ c : UInt8, 128 ≤ c.toNat → q c = true) (h3 : ∀ r, 128 ≤ r → p r = true) (s : ByteArray) :
  ∀ (f pos : Nat), pos ≤ s.size → s.size - pos ≤ f →
   Lib.idxFuncFrom p true s f pos = if pos + ((s.data.toList.drop pos).takeWhile (fun c => !q c)).length < s.size then ((pos + ((s.data.toList.drop pos).takeWhile (fun c => !q c)).length : Nat) : Int) else -1 := by
 intro f
 induction f with
 | zero =>
  intro pos hp hf
  have : pos = s.size := by omega
  rw [if_neg (by omega)]
  rfl
 | succ f ih =>
  intro pos hp hf
  unfold Lib.idxFuncFrom
  by_cases hlt : pos < s.size
  ·rw [if_pos hlt, drop_cons_get s pos hlt, List.takeWhile_cons]
   by_cases ha : (s[pos]).toNat < 128
   ·rw [decode_ascii s pos hlt ha, h1 _ ha]
    by_cases hq : q s[pos] = true
    ·rw [if_pos hq, hq]; simp [hlt]
    ·have hq' : q s[pos] = false := by simpa using hq
     rw [if_neg hq, hq', ih (pos + 1) (by omega) (by omega)]
     simp only [Bool.not_false, if_true, List.length_cons]
     rw [show pos + 1 + (List.takeWhile (fun c => !q c) (List.drop (pos + 1) s.data.toList)).length = pos + ((List.takeWhile (fun c => !q c) (List.drop (pos + 1) s.data.toList)).length + 1) from by omega]
   ·have hd := decode_high s pos hlt (by omega)
    rw [h3 _ hd.1, if_pos rfl, h2 _ (by omega)]
    simp [hlt]
  ·rw [if_neg hlt]
   have : pos = s.size := by omega
   rw [if_neg (by omega)]

theorem takeWhile_len_le (q : UInt8 → Bool) (l : List UInt8) : (l.takeWhile q).length ≤ l.length := by
 induction l with
 | nil => simp
 | cons a t ih => rw [List.takeWhile_cons]; split <;> simp <;> omega

theorem takeWhile_take (q : UInt8 → Bool) (l : List UInt8) : l.take (l.takeWhile q).length = l.takeWhile q := by
 induction l with
 | nil => simp
 | cons a t ih => rw [List.takeWhile_cons]; split <;> simp [ih]

theorem takeWhile_all {q : UInt8 → Bool} {l : List UInt8} (h : (l.takeWhile q).length = l.length) : l.takeWhile q = l := by
 have := takeWhile_take q l
 rw [h, List.take_length] at this
 exact this.symm

def pRun (r : Nat) : Bool := decide (127 < r) || !(decide (97 ≤ r) && decide (r ≤ 122) || decide (65 ≤ r) && decide (r ≤ 90) || decide (48 ≤ r) && decide (r ≤ 57))
theorem idx_run (s : ByteArray) : Lib.idxFunc pRun true s = if (s.data.toList.takeWhile wordly).length < s.size then ((s.data.toList.takeWhile wordly).length : Int) else -1 := by
 have h := idxFrom pRun (fun c => !wordly c) ?_ ?_ ?_ s s.size 0 (Nat.zero_le _) (by omega)
 ·unfold Lib.idxFunc
  simpa using h
 ·intro c hc
  unfold pRun wordly lower upper digit
  have : decide (127 < c.toNat) = false := by simp; omega
  rw [this]; simp
 ·intro c hc
  unfold wordly lower upper digit
  have e1 : decide (c.toNat ≤ 122) = false := by simp; omega
  have e2 : decide (c.toNat ≤ 90) = false := by simp; omega
  have e3 : decide (c.toNat ≤ 57) = false := by simp; omega
  simp [e1, e2, e3]
 ·intro r hr
  unfold pRun
  have : decide (127 < r) = true := by simp; omega
  simp [this]

def pBig (r : Nat) : Bool := decide (57 < r)
theorem takeWhile_any (q : UInt8 → Bool) (l : List UInt8) : (l.takeWhile (fun c => !q c)).length < l.length ↔ l.any q = true := by
 induction l with
 | nil => simp
 | cons a t ih =>
  rw [List.takeWhile_cons, List.any_cons]
  cases h : q a <;> simp [ih]
theorem idx_big (s : ByteArray) : decide (0 ≤ Lib.idxFunc pBig true s) = s.data.toList.any (fun c => decide (57 < c.toNat)) := by
 have h := idxFrom pBig (fun c => decide (57 < c.toNat)) (fun _ _ => rfl) (fun c hc => decide_eq_true (by omega)) (fun r hr => decide_eq_true (by omega)) s s.size 0 (Nat.zero_le _) (by omega)
 have e : Lib.idxFunc pBig true s = _ := h
 rw [e]
 have ha := takeWhile_any (fun c => decide (57 < c.toNat)) s.data.toList
 have hs : s.data.toList.length = s.size := Array.length_toList
 simp only [List.drop_zero, Nat.zero_add]
 by_cases hb : s.data.toList.any (fun c => decide (57 < c.toNat)) = true
 ·rw [if_pos (by rw [← hs]; exact ha.2 hb), hb]; exact decide_eq_true (Int.natCast_nonneg _)
 ·rw [if_neg (by rw [← hs]; exact fun z => hb (ha.1 z))]
  have : s.data.toList.any (fun c => decide (57 < c.toNat)) = false := by simpa using hb
  rw [this]; simp

theorem trim_blank (l : List UInt8) : Lib.trimLeftS l [32, 10, 9] = l.dropWhile blank := by
 unfold Lib.trimLeftS
 congr 1
 funext c
 unfold blank
 rw [List.contains_cons, List.contains_cons, List.contains_cons, List.contains_nil, Bool.or_false, Bool.or_assoc]

theorem decFrom_num (l : List UInt8) : ∀ acc, (∀ c ∈ l, digit c = true) → Lib.decFrom acc l = some (l.foldl (fun n c => 10 * n + (c.toNat - 48)) acc) := by
 induction l with
 | nil => intro acc _; rfl
 | cons a t ih =>
  intro acc h
  have ha := h a (List.mem_cons_self ..)
  unfold digit at ha
  simp at ha
  unfold Lib.decFrom Lib.digitVal
  rw [if_pos ⟨ha.1, ha.2⟩]
  simp only [List.foldl_cons]
  rw [ih _ (fun c hc => h c (List.mem_cons_of_mem _ hc)), Nat.mul_comm]

theorem atoi_num (l : List UInt8) (hne : l ≠ []) (h : ∀ c ∈ l, digit c = true) : Lib.atoi l = some (num l : Int) := by
 cases l with
 | nil => exact absurd rfl hne
 | cons a t =>
  have ha := h a (List.mem_cons_self ..)
  unfold digit at ha
  simp at ha
  unfold Lib.atoi
  have e1 : (a == 45) = false := by
   apply beq_eq_false_iff_ne.2; rintro rfl; simp at ha
  have e2 : (a == 43) = false := by
   apply beq_eq_false_iff_ne.2; rintro rfl; simp at ha
  simp only [e1, e2, Bool.false_eq_true, if_false, Lib.decNat, List.isEmpty_cons]
  rw [decFrom_num _ 0 h]
  rfl

theorem first_prefix {l t : List UInt8} {k n : Nat} (h : first l = .ok (k, t, n)) : t <+: l ∧ t ≠ [] := by
 unfold first at h
 simp only at h
 split at h
 ·split at h
  ·rename_i s hs
   injection h with h
   injection h with h1 h2
   injection h2 with h2 h3
   subst h2
   refine ⟨by have := List.find?_some hs; simpa using this, ?_⟩
   have hm := List.mem_of_find?_eq_some hs
   rintro rfl
   exact absurd hm (by decide)
  ·cases h
 ·rename_i hne
  split at h
  ·injection h with h
   injection h with h1 h2
   injection h2 with h2 h3
   subst h2
   exact ⟨List.takeWhile_prefix _, hne⟩
  ·cases h

end Go.Proofs.YthdkjfhpbigdpaaGreatDoor.HLex

/- The shelf's contracts at this translation, in plain words: each one application. -/
namespace Go.Proofs
open Go.Shelf
def Tryz.lays172_ren : Go.Shelf.Ren := ⟨fun | 172 => 66 | 244 => 71 | 245 => 72 | 247 => 77 | 279 => 78 | 280 => 79 | 281 => 80 | 282 => 81 | 287 => 83 | 316 => 84 | 171 => 86 | 205 => 85 | 321 => 88 | 322 => 89 | 243 => 90 | 246 => 91 | 283 => 92 | 284 => 93 | 285 => 94 | 286 => 95 | 129 => 97 | 317 => 96 | 318 => 98 | 319 => 99 | 320 => 100 | 337 => 101 | 338 => 102 | n => n, fun | 9 => 9 | 3 => 3 | 75 => 102 | 76 => 103 | 4 => 4 | 5 => 5 | 167 => 116 | 37 => 117 | 0 => 0 | 85 => 118 | 2 => 2 | 168 => 120 | 53 => 123 | 175 => 124 | 46 => 106 | 210 => 128 | 127 => 132 | 145 => 135 | 143 => 133 | 21 => 21 | 171 => 137 | 173 => 140 | 212 => 143 | 51 => 64 | 20 => 20 | 213 => 144 | 232 => 148 | 233 => 149 | 80 => 150 | n => n, fun | 15 => 5 | 16 => 6 | 17 => 7 | 18 => 8 | 19 => 9 | n => n⟩
theorem Tryz.lays172 : Go.Proofs.Lays.n172 Tryz.prog Tryz.lays172_ren := {
 mixed := by kernel_rfl
 f129 := Tryz.func97.trans (congrArg some (by kernel_rfl))
 f171 := Tryz.func86.trans (congrArg some (by kernel_rfl))
 f172 := Tryz.func66.trans (congrArg some (by kernel_rfl))
 f205 := Tryz.func85.trans (congrArg some (by kernel_rfl))
 f243 := Tryz.func90.trans (congrArg some (by kernel_rfl))
 f244 := Tryz.func71.trans (congrArg some (by kernel_rfl))
 f245 := Tryz.func72.trans (congrArg some (by kernel_rfl))
 f246 := Tryz.func91.trans (congrArg some (by kernel_rfl))
 f247 := Tryz.func77.trans (congrArg some (by kernel_rfl))
 f279 := Tryz.func78.trans (congrArg some (by kernel_rfl))
 f280 := Tryz.func79.trans (congrArg some (by kernel_rfl))
 f281 := Tryz.func80.trans (congrArg some (by kernel_rfl))
 f282 := Tryz.func81.trans (congrArg some (by kernel_rfl))
 f283 := Tryz.func92.trans (congrArg some (by kernel_rfl))
 f284 := Tryz.func93.trans (congrArg some (by kernel_rfl))
 f285 := Tryz.func94.trans (congrArg some (by kernel_rfl))
 f286 := Tryz.func95.trans (congrArg some (by kernel_rfl))
 f287 := Tryz.func83.trans (congrArg some (by kernel_rfl))
 f316 := Tryz.func84.trans (congrArg some (by kernel_rfl))
 f317 := Tryz.func96.trans (congrArg some (by kernel_rfl))
 f318 := Tryz.func98.trans (congrArg some (by kernel_rfl))
 f319 := Tryz.func99.trans (congrArg some (by kernel_rfl))
 f320 := Tryz.func100.trans (congrArg some (by kernel_rfl))
 f321 := Tryz.func88.trans (congrArg some (by kernel_rfl))
 f322 := Tryz.func89.trans (congrArg some (by kernel_rfl))
 f337 := Tryz.func101.trans (congrArg some (by kernel_rfl))
 f338 := Tryz.func102.trans (congrArg some (by kernel_rfl))
 t0 := Tryz.underlying0
 a0 := Tryz.isAgg0
 z0 := Tryz.sizeOf0
 v0 := Tryz.zeroValue0
 t2 := Tryz.underlying2
 a2 := Tryz.isAgg2
 z2 := Tryz.sizeOf2
 v2 := Tryz.zeroValue2
 t3 := Tryz.underlying3
 a3 := Tryz.isAgg3
 z3 := Tryz.sizeOf3
 v3 := Tryz.zeroValue3
 t4 := Tryz.underlying4
 a4 := Tryz.isAgg4
 z4 := Tryz.sizeOf4
 v4 := Tryz.zeroValue4
 t5 := Tryz.underlying5
 a5 := Tryz.isAgg5
 z5 := Tryz.sizeOf5
 v5 := Tryz.zeroValue5
 t9 := Tryz.underlying9
 a9 := Tryz.isAgg9
 z9 := Tryz.sizeOf9
 v9 := Tryz.zeroValue9
 t20 := Tryz.underlying20
 a20 := Tryz.isAgg20
 z20 := Tryz.sizeOf20
 v20 := Tryz.zeroValue20
 t21 := Tryz.underlying21
 a21 := Tryz.isAgg21
 z21 := Tryz.sizeOf21
 v21 := Tryz.zeroValue21
 t37 := Tryz.underlying117
 a37 := Tryz.isAgg117
 z37 := Tryz.sizeOf117
 v37 := Tryz.zeroValue117
 t46 := Tryz.underlying106
 a46 := Tryz.isAgg106
 z46 := Tryz.sizeOf106
 v46 := Tryz.zeroValue106
 t51 := Tryz.underlying64
 a51 := Tryz.isAgg64
 z51 := Tryz.sizeOf64
 v51 := Tryz.zeroValue64
 t53 := Tryz.underlying123
 a53 := Tryz.isAgg123
 z53 := Tryz.sizeOf123
 v53 := Tryz.zeroValue123
 t75 := Tryz.underlying102
 a75 := Tryz.isAgg102
 z75 := Tryz.sizeOf102
 v75 := Tryz.zeroValue102
 t76 := Tryz.underlying103
 a76 := Tryz.isAgg103
 z76 := Tryz.sizeOf103
 v76 := Tryz.zeroValue103
 t85 := Tryz.underlying118
 a85 := Tryz.isAgg118
 z85 := Tryz.sizeOf118
 v85 := Tryz.zeroValue118
 t127 := Tryz.underlying132
 a127 := Tryz.isAgg132
 z127 := Tryz.sizeOf132
 v127 := Tryz.zeroValue132
 t143 := Tryz.underlying133
 a143 := Tryz.isAgg133
 z143 := Tryz.sizeOf133
 v143 := Tryz.zeroValue133
 t145 := Tryz.underlying135
 a145 := Tryz.isAgg135
 z145 := Tryz.sizeOf135
 v145 := Tryz.zeroValue135
 t167 := Tryz.underlying116
 a167 := Tryz.isAgg116
 z167 := Tryz.sizeOf116
 v167 := Tryz.zeroValue116
 t168 := Tryz.underlying120
 a168 := Tryz.isAgg120
 z168 := Tryz.sizeOf120
 v168 := Tryz.zeroValue120
 t171 := Tryz.underlying137
 a171 := Tryz.isAgg137
 z171 := Tryz.sizeOf137
 v171 := Tryz.zeroValue137
 t173 := Tryz.underlying140
 a173 := Tryz.isAgg140
 z173 := Tryz.sizeOf140
 v173 := Tryz.zeroValue140
 t175 := Tryz.underlying124
 a175 := Tryz.isAgg124
 z175 := Tryz.sizeOf124
 v175 := Tryz.zeroValue124
 t210 := Tryz.underlying128
 a210 := Tryz.isAgg128
 z210 := Tryz.sizeOf128
 v210 := Tryz.zeroValue128
 t212 := Tryz.underlying143
 a212 := Tryz.isAgg143
 z212 := Tryz.sizeOf143
 v212 := Tryz.zeroValue143
 t213 := Tryz.underlying144
 a213 := Tryz.isAgg144
 z213 := Tryz.sizeOf144
 t232 := Tryz.underlying148
 a232 := Tryz.isAgg148
 z232 := Tryz.sizeOf148
 v232 := Tryz.zeroValue148
 t233 := Tryz.underlying149
 a233 := Tryz.isAgg149
 z233 := Tryz.sizeOf149
 v233 := Tryz.zeroValue149
 g15 := by kernel_rfl
 g16 := by kernel_rfl
 g17 := by kernel_rfl
 g18 := by kernel_rfl
 g19 := by kernel_rfl }
open Go.RowKit in
theorem Tryz.strconv_Atoi (s : ByteArray) (n : Int) (hl : s.size ≤ 18) (h : Lib.atoi s.data.toList = some n) (w : World) :
  Calls Tryz.prog 66 #[.string s] w fun e w' => e = .returned (.tuple #[.int .i64 n, .nilIface]) ∧ ∃ t, w' = Lib.bytesWorld w 5 t := Any.strconv_Atoi Tryz.lays172 s n hl h w
def Tryz.laysGw15_ren : Go.Shelf.Ren := ⟨fun | 15 => 49 | 20 => 60 | n => n, fun | 9 => 9 | 23 => 53 | 3 => 3 | 4 => 4 | 0 => 0 | 21 => 21 | n => n, fun | n => n⟩
theorem Tryz.laysGw15 : Go.Proofs.LaysGw.n15 Tryz.prog Tryz.laysGw15_ren := {
 mixed := by kernel_rfl
 f15 := Tryz.func49.trans (congrArg some (by kernel_rfl))
 f20 := Tryz.func60.trans (congrArg some (by kernel_rfl))
 t0 := Tryz.underlying0
 a0 := Tryz.isAgg0
 z0 := Tryz.sizeOf0
 v0 := Tryz.zeroValue0
 i0 := by kernel_rfl
 t3 := Tryz.underlying3
 a3 := Tryz.isAgg3
 z3 := Tryz.sizeOf3
 v3 := Tryz.zeroValue3
 i3 := by kernel_rfl
 t4 := Tryz.underlying4
 a4 := Tryz.isAgg4
 z4 := Tryz.sizeOf4
 v4 := Tryz.zeroValue4
 i4 := by kernel_rfl
 t9 := Tryz.underlying9
 a9 := Tryz.isAgg9
 z9 := Tryz.sizeOf9
 v9 := Tryz.zeroValue9
 i9 := by kernel_rfl
 t21 := Tryz.underlying21
 a21 := Tryz.isAgg21
 z21 := Tryz.sizeOf21
 v21 := Tryz.zeroValue21
 i21 := by kernel_rfl
 t23 := Tryz.underlying53
 a23 := Tryz.isAgg53
 z23 := Tryz.sizeOf53
 v23 := Tryz.zeroValue53
 i23 := by kernel_rfl }
open Go.RowKit Go.Lib in
theorem Tryz.strings_IndexFunc (g : Nat) (lb : Array Value) (eg : ∀ args w, (callFunc g args).run Tryz.prog w = .ok (.enter g args) w) (p : Nat → Bool) (s : ByteArray) (w : World) (hp : PredAt Tryz.prog g lb encR p w) :
  Calls Tryz.prog 49 #[.string s, .func (.func g) #[] lb] w fun e w' => e = .returned (.int .i64 (Lib.idxFunc p true s)) ∧ Below w.heap.size w w' := Any.strings_IndexFunc Tryz.laysGw15 g lb eg p s w hp
def Tryz.laysGw17_ren : Go.Shelf.Ren := ⟨fun | 17 => 64 | 15 => 49 | 20 => 60 | n => n, fun | 9 => 9 | 23 => 53 | 4 => 4 | 3 => 3 | 0 => 0 | 21 => 21 | n => n, fun | n => n⟩
theorem Tryz.laysGw17 : Go.Proofs.LaysGw.n17 Tryz.prog Tryz.laysGw17_ren := {
 mixed := by kernel_rfl
 f15 := Tryz.func49.trans (congrArg some (by kernel_rfl))
 f17 := Tryz.func64.trans (congrArg some (by kernel_rfl))
 f20 := Tryz.func60.trans (congrArg some (by kernel_rfl))
 t0 := Tryz.underlying0
 a0 := Tryz.isAgg0
 z0 := Tryz.sizeOf0
 v0 := Tryz.zeroValue0
 i0 := by kernel_rfl
 t3 := Tryz.underlying3
 a3 := Tryz.isAgg3
 z3 := Tryz.sizeOf3
 v3 := Tryz.zeroValue3
 i3 := by kernel_rfl
 t4 := Tryz.underlying4
 a4 := Tryz.isAgg4
 z4 := Tryz.sizeOf4
 v4 := Tryz.zeroValue4
 i4 := by kernel_rfl
 t9 := Tryz.underlying9
 a9 := Tryz.isAgg9
 z9 := Tryz.sizeOf9
 v9 := Tryz.zeroValue9
 i9 := by kernel_rfl
 t21 := Tryz.underlying21
 a21 := Tryz.isAgg21
 z21 := Tryz.sizeOf21
 v21 := Tryz.zeroValue21
 i21 := by kernel_rfl
 t23 := Tryz.underlying53
 a23 := Tryz.isAgg53
 z23 := Tryz.sizeOf53
 v23 := Tryz.zeroValue53
 i23 := by kernel_rfl }
open Go.RowKit Go.Lib in
theorem Tryz.strings_ContainsFunc (g : Nat) (lb : Array Value) (eg : ∀ args w, (callFunc g args).run Tryz.prog w = .ok (.enter g args) w) (p : Nat → Bool) (s : ByteArray) (w : World) (hp : PredAt Tryz.prog g lb encR p w) :
  Calls Tryz.prog 64 #[.string s, .func (.func g) #[] lb] w fun e w' => e = .returned (.bool (decide (0 ≤ Lib.idxFunc p true s))) ∧ Below w.heap.size w w' := Any.strings_ContainsFunc Tryz.laysGw17 g lb eg p s w hp
def Tryz.lays157_ren : Go.Shelf.Ren := ⟨fun | 157 => 29 | 229 => 33 | 199 => 34 | 261 => 39 | 311 => 55 | 312 => 56 | n => n, fun | 9 => 9 | 31 => 42 | 3 => 3 | 5 => 5 | 4 => 4 | 119 => 51 | 0 => 0 | 40 => 53 | 152 => 61 | 21 => 21 | 154 => 63 | 51 => 64 | 141 => 66 | 196 => 88 | 193 => 85 | 198 => 91 | 49 => 89 | 194 => 86 | 201 => 94 | 226 => 105 | 46 => 106 | 227 => 107 | n => n, fun | 0 => 0 | 6 => 1 | n => n⟩
theorem Tryz.lays157 : Go.Proofs.Lays.n157 Tryz.prog Tryz.lays157_ren := {
 mixed := by kernel_rfl
 f157 := Tryz.func29.trans (congrArg some (by kernel_rfl))
 f199 := Tryz.func34.trans (congrArg some (by kernel_rfl))
 f229 := Tryz.func33.trans (congrArg some (by kernel_rfl))
 f261 := Tryz.func39.trans (congrArg some (by kernel_rfl))
 f311 := Tryz.func55.trans (congrArg some (by kernel_rfl))
 f312 := Tryz.func56.trans (congrArg some (by kernel_rfl))
 t0 := Tryz.underlying0
 a0 := Tryz.isAgg0
 z0 := Tryz.sizeOf0
 v0 := Tryz.zeroValue0
 t3 := Tryz.underlying3
 a3 := Tryz.isAgg3
 z3 := Tryz.sizeOf3
 v3 := Tryz.zeroValue3
 t4 := Tryz.underlying4
 a4 := Tryz.isAgg4
 z4 := Tryz.sizeOf4
 v4 := Tryz.zeroValue4
 t5 := Tryz.underlying5
 a5 := Tryz.isAgg5
 z5 := Tryz.sizeOf5
 v5 := Tryz.zeroValue5
 t9 := Tryz.underlying9
 a9 := Tryz.isAgg9
 z9 := Tryz.sizeOf9
 v9 := Tryz.zeroValue9
 t21 := Tryz.underlying21
 a21 := Tryz.isAgg21
 z21 := Tryz.sizeOf21
 v21 := Tryz.zeroValue21
 t31 := Tryz.underlying42
 a31 := Tryz.isAgg42
 z31 := Tryz.sizeOf42
 v31 := Tryz.zeroValue42
 t40 := Tryz.underlying53
 a40 := Tryz.isAgg53
 z40 := Tryz.sizeOf53
 v40 := Tryz.zeroValue53
 t46 := Tryz.underlying106
 a46 := Tryz.isAgg106
 z46 := Tryz.sizeOf106
 v46 := Tryz.zeroValue106
 t49 := Tryz.underlying89
 a49 := Tryz.isAgg89
 z49 := Tryz.sizeOf89
 v49 := Tryz.zeroValue89
 t51 := Tryz.underlying64
 a51 := Tryz.isAgg64
 z51 := Tryz.sizeOf64
 v51 := Tryz.zeroValue64
 t119 := Tryz.underlying51
 a119 := Tryz.isAgg51
 z119 := Tryz.sizeOf51
 t141 := Tryz.underlying66
 a141 := Tryz.isAgg66
 z141 := Tryz.sizeOf66
 v141 := Tryz.zeroValue66
 t152 := Tryz.underlying61
 a152 := Tryz.isAgg61
 z152 := Tryz.sizeOf61
 v152 := Tryz.zeroValue61
 t154 := Tryz.underlying63
 a154 := Tryz.isAgg63
 z154 := Tryz.sizeOf63
 v154 := Tryz.zeroValue63
 t193 := Tryz.underlying85
 a193 := Tryz.isAgg85
 z193 := Tryz.sizeOf85
 v193 := Tryz.zeroValue85
 t194 := Tryz.underlying86
 a194 := Tryz.isAgg86
 z194 := Tryz.sizeOf86
 v194 := Tryz.zeroValue86
 t196 := Tryz.underlying88
 a196 := Tryz.isAgg88
 z196 := Tryz.sizeOf88
 v196 := Tryz.zeroValue88
 t198 := Tryz.underlying91
 a198 := Tryz.isAgg91
 z198 := Tryz.sizeOf91
 v198 := Tryz.zeroValue91
 t201 := Tryz.underlying94
 a201 := Tryz.isAgg94
 z201 := Tryz.sizeOf94
 v201 := Tryz.zeroValue94
 t226 := Tryz.underlying105
 a226 := Tryz.isAgg105
 z226 := Tryz.sizeOf105
 v226 := Tryz.zeroValue105
 t227 := Tryz.underlying107
 a227 := Tryz.isAgg107
 z227 := Tryz.sizeOf107
 v227 := Tryz.zeroValue107
 g0 := by kernel_rfl
 g6 := by kernel_rfl }
open Go.RowKit Go.Lib in
theorem Tryz.strings_Fields (s : ByteArray) (w : World) (hs : s.size < 4294967281) (hascii : ∀ (j : Nat) b, s.data.toList[j]? = some b → b.toNat < 128) (htab : Lib.TabIs Tryz.prog w "strings.asciiSpace" .u8 Lib.asciiSpaceTab) :
  Calls Tryz.prog 29 #[.string s] w fun e w' =>
   e = .returned (.slice (some ⟨w.heap.size, 0, none⟩) (Lib.fields s.data.toList).length (Lib.fields s.data.toList).length) ∧ w' = w.alloc (.cells ((Lib.fields s.data.toList).map fun l => Value.string ⟨l.toArray⟩).toArray 9) := Any.strings_Fields Tryz.lays157 (by kernel_rfl) (by kernel_rfl) s w hs hascii htab
def Tryz.lays110_ren : Go.Shelf.Ren := ⟨fun | 110 => 28 | 109 => 32 | n => n, fun | 31 => 42 | 9 => 9 | 4 => 4 | 3 => 3 | 0 => 0 | n => n, fun | n => n⟩
theorem Tryz.lays110 : Go.Proofs.Lays.n110 Tryz.prog Tryz.lays110_ren := {
 mixed := by kernel_rfl
 f109 := Tryz.func32.trans (congrArg some (by kernel_rfl))
 f110 := Tryz.func28.trans (congrArg some (by kernel_rfl))
 t0 := Tryz.underlying0
 a0 := Tryz.isAgg0
 z0 := Tryz.sizeOf0
 v0 := Tryz.zeroValue0
 t3 := Tryz.underlying3
 a3 := Tryz.isAgg3
 z3 := Tryz.sizeOf3
 v3 := Tryz.zeroValue3
 t4 := Tryz.underlying4
 a4 := Tryz.isAgg4
 z4 := Tryz.sizeOf4
 v4 := Tryz.zeroValue4
 t9 := Tryz.underlying9
 a9 := Tryz.isAgg9
 z9 := Tryz.sizeOf9
 v9 := Tryz.zeroValue9
 t31 := Tryz.underlying42
 a31 := Tryz.isAgg42
 z31 := Tryz.sizeOf42
 v31 := Tryz.zeroValue42 }
open Go.Lib in
theorem Tryz.slices_Contains_string (b off n c : Nat) (zs : List ByteArray) (x : ByteArray) (w : World) (hz : n ≤ zs.length) (hbig : n ≤ 9223372036854775807) (hc : ∀ j, j < zs.length → w.cell? ⟨b, off + j, none⟩ = some (.string (zs.getD j ByteArray.empty))) :
  Calls Tryz.prog 28 #[.slice (some ⟨b, off, none⟩) n c, .string x] w fun e w' => e = .returned (.bool (Lib.containsS (zs.take n) x)) ∧ w' = w := Any.slices_Contains_string Tryz.lays110 b off n c zs x w hz hbig hc
def Tryz.laysTL_ren : Go.Shelf.Ren := ⟨fun | 161 => 37 | 231 => 45 | 227 => 46 | 233 => 47 | 235 => 48 | 228 => 57 | 197 => 58 | 151 => 59 | 260 => 69 | 152 => 70 | 137 => 73 | 119 => 74 | 224 => 75 | 225 => 76 | 217 => 82 | 266 => 87 | n => n, fun | 9 => 9 | 4 => 4 | 3 => 3 | 5 => 5 | 117 => 76 | 116 => 75 | 0 => 0 | 124 => 79 | 105 => 96 | 21 => 21 | 119 => 51 | 46 => 106 | 139 => 112 | 138 => 111 | n => n, fun | 3 => 2 | 4 => 3 | n => n⟩
theorem Tryz.laysTL : Go.Proofs.Lays.n161 Tryz.prog Tryz.laysTL_ren := {
 mixed := by kernel_rfl
 f119 := Tryz.func74.trans (congrArg some (by kernel_rfl))
 f137 := Tryz.func73.trans (congrArg some (by kernel_rfl))
 f151 := Tryz.func59.trans (congrArg some (by kernel_rfl))
 f152 := Tryz.func70.trans (congrArg some (by kernel_rfl))
 f161 := Tryz.func37.trans (congrArg some (by kernel_rfl))
 f197 := Tryz.func58.trans (congrArg some (by kernel_rfl))
 f217 := Tryz.func82.trans (congrArg some (by kernel_rfl))
 f224 := Tryz.func75.trans (congrArg some (by kernel_rfl))
 f225 := Tryz.func76.trans (congrArg some (by kernel_rfl))
 f227 := Tryz.func46.trans (congrArg some (by kernel_rfl))
 f228 := Tryz.func57.trans (congrArg some (by kernel_rfl))
 f231 := Tryz.func45.trans (congrArg some (by kernel_rfl))
 f233 := Tryz.func47.trans (congrArg some (by kernel_rfl))
 f235 := Tryz.func48.trans (congrArg some (by kernel_rfl))
 f260 := Tryz.func69.trans (congrArg some (by kernel_rfl))
 f266 := Tryz.func87.trans (congrArg some (by kernel_rfl))
 t0 := Tryz.underlying0
 a0 := Tryz.isAgg0
 z0 := Tryz.sizeOf0
 v0 := Tryz.zeroValue0
 t3 := Tryz.underlying3
 a3 := Tryz.isAgg3
 z3 := Tryz.sizeOf3
 v3 := Tryz.zeroValue3
 t4 := Tryz.underlying4
 a4 := Tryz.isAgg4
 z4 := Tryz.sizeOf4
 v4 := Tryz.zeroValue4
 t5 := Tryz.underlying5
 a5 := Tryz.isAgg5
 z5 := Tryz.sizeOf5
 v5 := Tryz.zeroValue5
 t9 := Tryz.underlying9
 a9 := Tryz.isAgg9
 z9 := Tryz.sizeOf9
 v9 := Tryz.zeroValue9
 t21 := Tryz.underlying21
 a21 := Tryz.isAgg21
 z21 := Tryz.sizeOf21
 v21 := Tryz.zeroValue21
 t46 := Tryz.underlying106
 a46 := Tryz.isAgg106
 z46 := Tryz.sizeOf106
 v46 := Tryz.zeroValue106
 t105 := Tryz.underlying96
 a105 := Tryz.isAgg96
 z105 := Tryz.sizeOf96
 v105 := Tryz.zeroValue96
 t116 := Tryz.underlying75
 a116 := Tryz.isAgg75
 z116 := Tryz.sizeOf75
 t117 := Tryz.underlying76
 a117 := Tryz.isAgg76
 z117 := Tryz.sizeOf76
 v117 := Tryz.zeroValue76
 t119 := Tryz.underlying51
 a119 := Tryz.isAgg51
 z119 := Tryz.sizeOf51
 t124 := Tryz.underlying79
 a124 := Tryz.isAgg79
 z124 := Tryz.sizeOf79
 v124 := Tryz.zeroValue79
 t138 := Tryz.underlying111
 a138 := Tryz.isAgg111
 z138 := Tryz.sizeOf111
 v138 := Tryz.zeroValue111
 t139 := Tryz.underlying112
 a139 := Tryz.isAgg112
 z139 := Tryz.sizeOf112
 v139 := Tryz.zeroValue112
 g3 := by kernel_rfl
 g4 := by kernel_rfl }
open Go.RowKit in
theorem Tryz.TrimLeft_set (s cutset : ByteArray) (w : World) (hcs : cutset.size < 4294967281) (hascii : ∀ (j : Nat) b, cutset.data.toList[j]? = some b → b.toNat < 128) :
  Calls Tryz.prog 37 #[.string s, .string cutset] w fun e w' => e = .returned (.string ⟨(Lib.trimLeftS s.data.toList cutset.data.toList).toArray⟩) ∧ Below w.heap.size w w' := Any.strings_TrimLeft_laid Tryz.laysTL (by kernel_rfl) s cutset w hcs hascii
end Go.Proofs

/- The walks of package lex: what each of its functions comes to, in the words of HLex. -/
namespace Go.Proofs.YthdkjfhpbigdpaaGreatDoor.HLexC
open Go Go.RowKit Go.Lib Go.Proofs Go.Proofs.YthdkjfhpbigdpaaGreatDoorW.PrintWords Go.Proofs.YthdkjfhpbigdpaaGreatDoorW.PrintLast Go.Proofs.YthdkjfhpbigdpaaGreatDoorW.PrintMore
set_option linter.unusedVariables false
set_option linter.unusedSimpArgs false

theorem bcell {W w1 : World} (hb : Below W.heap.size W w1) : (∀ b o, b < W.heap.size → w1.cell? ⟨b, o, none⟩ = W.cell? ⟨b, o, none⟩) ∧ (∀ b o, b < W.heap.size → w1.frozen? ⟨b, o, none⟩ = W.frozen? ⟨b, o, none⟩) :=
 ⟨fun b o h => hb.cell (p := ⟨b, o, none⟩) h, fun b o h => hb.frozen (p := ⟨b, o, none⟩) h⟩

set_option maxHeartbeats 1000000 in
theorem lower_any (c : Int) (w : World) (h0 : 0 ≤ c) (h1 : c ≤ 255) : Calls Tryz.prog 61 #[.int .u8 c] w fun e w' => e = .returned (.bool (decide (97 ≤ c) && decide (c ≤ 122))) ∧ w = w' := by
 by_cases h : 97 ≤ c <;> by_cases h' : c ≤ 122
 all_goals
  go_enter Tryz.func61, Tryz.ntmps61
  go_wp2
  go_ret
  exact ⟨by simp [h, h'], rfl⟩
set_option maxHeartbeats 1000000 in
theorem upper_any (c : Int) (w : World) (h0 : 0 ≤ c) (h1 : c ≤ 255) : Calls Tryz.prog 62 #[.int .u8 c] w fun e w' => e = .returned (.bool (decide (65 ≤ c) && decide (c ≤ 90))) ∧ w = w' := by
 by_cases h : 65 ≤ c <;> by_cases h' : c ≤ 90
 all_goals
  go_enter Tryz.func62, Tryz.ntmps62
  go_wp2
  go_ret
  exact ⟨by simp [h, h'], rfl⟩
set_option maxHeartbeats 1000000 in
theorem digit_any (c : Int) (w : World) (h0 : 0 ≤ c) (h1 : c ≤ 255) : Calls Tryz.prog 63 #[.int .u8 c] w fun e w' => e = .returned (.bool (decide (48 ≤ c) && decide (c ≤ 57))) ∧ w = w' := by
 by_cases h : 48 ≤ c <;> by_cases h' : c ≤ 57
 all_goals
  go_enter Tryz.func63, Tryz.ntmps63
  go_wp2
  go_ret
  exact ⟨by simp [h, h'], rfl⟩

def wordlyI (c : Int) : Bool := decide (97 ≤ c) && decide (c ≤ 122) || (decide (65 ≤ c) && decide (c ≤ 90)) || (decide (48 ≤ c) && decide (c ≤ 57))
set_option maxHeartbeats 2000000 in
theorem wordly_any (c : Int) (w : World) (h0 : 0 ≤ c) (h1 : c ≤ 255) : Calls Tryz.prog 51 #[.int .u8 c] w fun e w' => e = .returned (.bool (wordlyI c)) ∧ w = w' := by
 unfold wordlyI
 cases hl : (decide (97 ≤ c) && decide (c ≤ 122)) <;> cases hu : (decide (65 ≤ c) && decide (c ≤ 90)) <;> cases hd : (decide (48 ≤ c) && decide (c ≤ 57))
 all_goals
  have HL := Lib.hid hl; have HU := Lib.hid hu; have HD := Lib.hid hd
  clear hl hu hd
  go_enter Tryz.func51, Tryz.ntmps51
  go_wp2_with (first|(go_at_call 61; refine (lower_any _ _ h0 h1).mono ?_; rintro e w' ⟨rfl, rfl⟩; rw [HL.out]) | (go_at_call 62; refine (upper_any _ _ h0 h1).mono ?_; rintro e w' ⟨rfl, rfl⟩; rw [HU.out]) | (go_at_call 63; refine (digit_any _ _ h0 h1).mono ?_; rintro e w' ⟨rfl, rfl⟩; rw [HD.out]))
  go_ret
  exact ⟨by simp, rfl⟩

set_option maxHeartbeats 1000000 in
theorem pRun_pays (w : World) : PredAt Tryz.prog 50 #[] encR HLex.pRun w := fun W r _ => by
 unfold FnGives
 by_cases h0 : 127 < r
 ·go_enter Tryz.func50, Tryz.ntmps50
  have z0 : decide ((127 : Int) < (r : Int)) = true := decide_eq_true (by omega)
  go_wp2
  go_ret
  exact ⟨by simp [HLex.pRun, h0], 0, rfl⟩
 ·have z0 : decide ((127 : Int) < (r : Int)) = false := decide_eq_false (by omega)
  have z1 : (0 : Int) ≤ (r : Int) := by omega
  have z2 : (r : Int) ≤ 255 := by omega
  cases hw : wordlyI (r : Int)
  all_goals
   have HW := Lib.hid hw
   clear hw
   go_enter Tryz.func50, Tryz.ntmps50
   go_wp2_with (go_at_call 51; refine (wordly_any _ _ z1 z2).mono ?_; rintro e w' ⟨rfl, rfl⟩; rw [HW.out])
   go_ret
   refine ⟨?_, 0, rfl⟩
   have := HW.out
   unfold wordlyI at this
   congr 2
   unfold HLex.pRun
   have e0 : decide (127 < r) = false := by simp; omega
   rw [e0, Bool.false_or]
   have c1 : ∀ a : Nat, decide ((a : Int) ≤ (r : Int)) = decide (a ≤ r) := fun a => by simp
   have c2 : ∀ a : Nat, decide ((r : Int) ≤ (a : Int)) = decide (r ≤ a) := fun a => by simp
   rw [show (97 : Int) = ((97 : Nat) : Int) from rfl, show (122 : Int) = ((122 : Nat) : Int) from rfl, show (65 : Int) = ((65 : Nat) : Int) from rfl, show (90 : Int) = ((90 : Nat) : Int) from rfl, show (48 : Int) = ((48 : Nat) : Int) from rfl, show (57 : Int) = ((57 : Nat) : Int) from rfl] at this
   simp only [c1, c2] at this
   rw [this]
   rfl

set_option maxHeartbeats 1000000 in
theorem pBig_pays (w : World) : PredAt Tryz.prog 65 #[] encR HLex.pBig w := fun W r _ => by
 unfold FnGives
 go_enter Tryz.func65, Tryz.ntmps65
 go_wp2
 go_ret
 exact ⟨by simp [HLex.pBig]; omega, 0, rfl⟩

theorem enters_first1 : ∀ args w, (callFunc 50 args).run Tryz.prog w = .ok (.enter 50 args) w := enters_of Tryz.func50 (by kernel_rfl) rfl
theorem enters_named1 : ∀ args w, (callFunc 65 args).run Tryz.prog w = .ok (.enter 65 args) w := enters_of Tryz.func65 (by kernel_rfl) rfl

theorem indexRun_any (s : ByteArray) (w : World) :
  Calls Tryz.prog 49 #[.string s, .func (.func 50) #[] #[]] w fun e w' => e = .returned (.int .i64 (Lib.idxFunc HLex.pRun true s)) ∧ Below w.heap.size w w' :=
 Tryz.strings_IndexFunc 50 #[] enters_first1 HLex.pRun s w (pRun_pays w)
theorem containsBig_any (s : ByteArray) (w : World) :
  Calls Tryz.prog 64 #[.string s, .func (.func 65) #[] #[]] w fun e w' => e = .returned (.bool (s.data.toList.any (fun c => decide (57 < c.toNat)))) ∧ Below w.heap.size w w' := by
 have h := Tryz.strings_ContainsFunc 65 #[] enters_named1 HLex.pBig s w (pBig_pays w)
 rw [HLex.idx_big] at h
 exact h

def wordsB : List ByteArray := [⟨#[108, 101, 116]⟩, ⟨#[108, 101, 116, 114, 101, 99]⟩, ⟨#[105, 110]⟩, ⟨#[99, 97, 115, 101]⟩, ⟨#[111, 102]⟩]
theorem bytes_eq_iff (a b : ByteArray) : a = b ↔ a.data.toList = b.data.toList := ⟨fun h => by rw [h], fun h => by
 cases a; cases b; congr 1; exact Array.toList_inj.1 h⟩
theorem containsWords (s : ByteArray) : Lib.containsS (wordsB.take 5) s = HLex.isWord s.data.toList := by
 rw [Bool.eq_iff_iff, Lib.containsS_iff]
 unfold HLex.isWord HLex.words wordsB
 simp [bytes_eq_iff]
theorem wordCells (w : World) : ∀ j, j < wordsB.length → (w.alloc (Obj.cells #[Value.string { data := #[108, 101, 116] }, Value.string { data := #[108, 101, 116, 114, 101, 99] }, Value.string { data := #[105, 110] }, Value.string { data := #[99, 97, 115, 101] }, Value.string { data := #[111, 102] }] 9)).cell? ⟨w.heap.size, 0 + j, none⟩ = some (.string (wordsB.getD j ByteArray.empty)) := by
 intro j hj
 have hj' : j < 5 := hj
 match j, hj' with
 | 0, _ => simp [go_sem, wordsB]
 | 1, _ => simp [go_sem, wordsB]
 | 2, _ => simp [go_sem, wordsB]
 | 3, _ => simp [go_sem, wordsB]
 | 4, _ => simp [go_sem, wordsB]
set_option maxHeartbeats 1000000 in
theorem word_any (s : ByteArray) (w : World) :
  Calls Tryz.prog 67 #[.string s] w fun e w' => e = .returned (.bool (HLex.isWord s.data.toList)) ∧ Below w.heap.size w w' := by
 have hC := fun (W : World) (hc : ∀ j, j < wordsB.length → W.cell? ⟨w.heap.size, 0 + j, none⟩ = some (.string (wordsB.getD j ByteArray.empty))) =>
  Tryz.slices_Contains_string w.heap.size 0 5 5 wordsB s W (by decide) (by decide) hc
 rw [containsWords] at hC
 go_enter Tryz.func67, Tryz.ntmps67
 go_wp2_with (go_at_call 28; refine (hC _ (wordCells w)).mono ?_; rintro e w' ⟨rfl, rfl⟩)
 go_ret
 exact ⟨rfl, (Below.refl _ _).alloc (Nat.le_refl _) _⟩

theorem bytes_below (w : World) (e : TypeId) (s : ByteArray) : Below w.heap.size w (Lib.bytesWorld w e s) := by
 unfold Lib.bytesWorld
 exact Lib.below_freeze (((Below.refl _ w).drew).alloc (Nat.le_refl _) _) (Nat.le_refl _) _
theorem atoi_any (s : ByteArray) (n : Int) (w : World) (hl : s.size ≤ 18) (h : Lib.atoi s.data.toList = some n) :
  Calls Tryz.prog 66 #[.string s] w fun e w' => e = .returned (.tuple #[.int .i64 n, .nilIface]) ∧ Below w.heap.size w w' :=
 (Tryz.strconv_Atoi s n hl h w).mono fun e w' ⟨he, t, hw⟩ => ⟨he, by rw [hw]; exact bytes_below _ _ _⟩

def NamedPost (s : ByteArray) (w : World) (e : Ending) (w' : World) : Prop :=
 (match HLex.named s.data.toList with
  | .ok (k, n) => e = .returned (.agg #[.int .i64 (k : Int), .string s, .int .i64 (n : Int), .int .i64 0])
  | .error er => e = .panicked [{ v := .iface 57 (.agg #[.int .i64 (er : Int)]), recovered := false }]) ∧ Below w.heap.size w w'

theorem head_get (s : ByteArray) (hn : 0 < s.size) : s.data.toList.head? = some s[0] := by
 have := HLex.drop_cons_get s 0 hn
 rw [List.drop_zero] at this
 rw [this]; rfl
set_option maxHeartbeats 2000000 in
theorem named_any (s : ByteArray) (w : World) (hn : 0 < s.size) (hmax : s.size ≤ 9223372036854775807) (hw : ∀ c ∈ s.data.toList, HLex.wordly c = true) :
  Calls Tryz.prog 52 #[.string s] w (NamedPost s w) := by
 have hh := head_get s hn
 have hsz : s.data.toList.length = s.size := Array.length_toList
 have hc0 : (0 : Int) ≤ ((s[0]).toNat : Int) := by omega
 have hc1 : ((s[0]).toNat : Int) ≤ 255 := by have := (s[0]).toNat_lt; omega
 have hdg : (decide ((48 : Int) ≤ ((s[0]).toNat : Int)) && decide (((s[0]).toNat : Int) ≤ 57)) = HLex.digit s[0] := by
  unfold HLex.digit; rw [Bool.eq_iff_iff]; simp; omega
 have hup : (decide ((65 : Int) ≤ ((s[0]).toNat : Int)) && decide (((s[0]).toNat : Int) ≤ 90)) = HLex.upper s[0] := by
  unfold HLex.upper; rw [Bool.eq_iff_iff]; simp; omega
 cases hd : HLex.digit s[0]
 ·have HD := Lib.hid hd
  have HDG := Lib.hid hdg
  have HUP := Lib.hid hup
  clear hdg hup
  by_cases hlen : 16 < s.size
  ·have hfin : HLex.named s.data.toList = .error 11 := by
    unfold HLex.named; rw [hh]; simp [hd, hsz, hlen]
   have HF := Lib.hid hfin; clear hfin hd hh hsz hw
   go_enter Tryz.func52, Tryz.ntmps52
   go_wp2_with (first|(go_at_call 63; refine (digit_any _ _ hc0 hc1).mono ?_; rintro e w' ⟨rfl, rfl⟩; rw [HDG.out, HD.out]))
   refine (show _ ∧ _ from ⟨rfl, ?_⟩)
   unfold NamedPost
   rw [HF.out]
   exact ⟨rfl, ((Below.refl _ _).alloc (Nat.le_refl _) _).alloc (by simp) _⟩
  ·have hk : ∃ k : Nat, HLex.named s.data.toList = .ok (k, 0) ∧ k = (if HLex.isWord s.data.toList then 4 else if HLex.upper s[0] then 2 else 1) := by
    unfold HLex.named; rw [hh]; simp only [Option.map_some, Option.getD_some, hd, hsz, hlen, Bool.false_eq_true, if_false]
    by_cases ha : HLex.isWord s.data.toList = true <;> by_cases hb' : HLex.upper s[0] = true <;> simp only [ha, hb', if_true, Bool.false_eq_true, if_false] <;> exact ⟨_, rfl, rfl⟩
   have HK := Lib.hid hk
   clear hk hd hh hsz hw
   cases hwd : HLex.isWord s.data.toList
   ·cases hu : HLex.upper s[0]
    all_goals
     have HW := Lib.hid hwd
     have HU := Lib.hid hu
     clear hwd hu
     go_enter Tryz.func52, Tryz.ntmps52
     go_wp2_with (first|(go_at_call 63; refine (digit_any _ _ hc0 hc1).mono ?_; rintro e w' ⟨rfl, rfl⟩; rw [HDG.out, HD.out]) | (go_at_call 62; refine (upper_any _ _ hc0 hc1).mono ?_; rintro e w' ⟨rfl, rfl⟩; rw [HUP.out, HU.out]) | (go_at_call 67; refine (word_any s _).mono ?_; rintro e w' ⟨rfl, hbl⟩; rw [HW.out]; have hz := hbl.size; simp only [World.size_alloc] at hz; have hb0 := Lib.hid (blk_below (blk_alloc (blk_new w _) _) hbl); obtain ⟨hc, hf⟩ := bcell hbl; simp only [World.size_alloc] at hc hf))
     obtain ⟨kk, hk1, hk2⟩ := HK.out
     rw [HW.out, HU.out] at hk2
     simp only [Bool.false_eq_true, if_false, if_true] at hk2
     refine bodyPost_ret (v := .agg #[.int .i64 (kk : Int), .string s, .int .i64 0, .int .i64 0]) (results_cell_row rfl _ _ w.heap.size 49 #[.int .i64 (kk : Int), .string s, .int .i64 0, .int .i64 0] (0, 0) _ rfl (by rw [hk2]; exact blk_put (blk_put (blk_put (blk_put (blk_far hb0.out (by simp) _) 0 _ rfl) 1 _ rfl) 2 _ rfl) 3 _ rfl) Tryz.underlying49 rfl (by kernel_rfl)) rfl ?_
     unfold NamedPost
     rw [hk1]
     exact ⟨rfl, ((((((((Below.refl _ _).alloc (Nat.le_refl _) _).alloc (by simp) _).trans (hbl.mono (by simp; omega))).setCell (by simp) _).setCell (by simp) _).setCell (by simp) _).setCell (by simp) _).setCell (by simp) _⟩
   ·have HW := Lib.hid hwd
    clear hwd
    go_enter Tryz.func52, Tryz.ntmps52
    go_wp2_with (first|(go_at_call 63; refine (digit_any _ _ hc0 hc1).mono ?_; rintro e w' ⟨rfl, rfl⟩; rw [HDG.out, HD.out]) | (go_at_call 67; refine (word_any s _).mono ?_; rintro e w' ⟨rfl, hbl⟩; rw [HW.out]; have hz := hbl.size; simp only [World.size_alloc] at hz; have hb0 := Lib.hid (blk_below (blk_alloc (blk_new w _) _) hbl); obtain ⟨hc, hf⟩ := bcell hbl; simp only [World.size_alloc] at hc hf))
    obtain ⟨kk, hk1, hk2⟩ := HK.out
    rw [HW.out] at hk2
    simp only [if_true] at hk2
    refine bodyPost_ret (v := .agg #[.int .i64 (kk : Int), .string s, .int .i64 0, .int .i64 0]) (results_cell_row rfl _ _ w.heap.size 49 #[.int .i64 (kk : Int), .string s, .int .i64 0, .int .i64 0] (0, 0) _ rfl (by rw [hk2]; exact blk_put (blk_put (blk_put (blk_put (blk_far hb0.out (by simp) _) 0 _ rfl) 1 _ rfl) 2 _ rfl) 3 _ rfl) Tryz.underlying49 rfl (by kernel_rfl)) rfl ?_
    unfold NamedPost
    rw [hk1]
    exact ⟨rfl, ((((((((Below.refl _ _).alloc (Nat.le_refl _) _).alloc (by simp) _).trans (hbl.mono (by simp; omega))).setCell (by simp) _).setCell (by simp) _).setCell (by simp) _).setCell (by simp) _).setCell (by simp) _⟩
 ·cases hb : s.data.toList.any (fun c => decide (57 < c.toNat))
  ·have hall : ∀ c ∈ s.data.toList, HLex.digit c = true := by
    intro c hc
    have h1 := hw c hc
    have h2 := List.any_eq_false.1 hb c hc
    simp at h2
    unfold HLex.wordly HLex.lower HLex.upper HLex.digit at h1
    unfold HLex.digit
    simp at h1 ⊢
    omega
   have hat := HLex.atoi_num s.data.toList (by intro h0; rw [h0] at hsz; simp at hsz; omega) hall
   have hfin : HLex.named s.data.toList = (if 18 < s.size ∨ 1 < s.size ∧ (s[0]).toNat = 48 then .error 11 else .ok (3, HLex.num s.data.toList)) := by
    unfold HLex.named; rw [hh]; simp only [Option.map_some, Option.getD_some, hd, hb, hsz, if_true, Bool.false_eq_true, if_false, Option.some.injEq]
    have : (s[0] = 48) ↔ (s[0]).toNat = 48 := ⟨fun h => by rw [h]; rfl, fun h => UInt8.toNat_inj.1 (by rw [h]; rfl)⟩
    simp only [this]
   have HF := Lib.hid hfin; clear hfin
   have HD := Lib.hid hd; clear hd
   have HB := Lib.hid hb; clear hb
   have HDG := Lib.hid hdg; clear hdg
   have HAT := Lib.hid hat
   clear hh hsz hw hup hall hat
   by_cases h18 : 18 < s.size
   ·go_enter Tryz.func52, Tryz.ntmps52
    go_wp2_with (first|(go_at_call 63; refine (digit_any _ _ hc0 hc1).mono ?_; rintro e w' ⟨rfl, rfl⟩; rw [HDG.out, HD.out]) | (go_at_call 64; refine (containsBig_any s _).mono ?_; rintro e w' ⟨rfl, hbl⟩; rw [HB.out]))
    refine (show _ ∧ _ from ⟨rfl, ?_⟩)
    unfold NamedPost
    rw [HF.out, if_pos (.inl h18)]
    exact ⟨rfl, (((Below.refl _ _).alloc (Nat.le_refl _) _).alloc (by simp) _).trans (hbl.mono (by simp; omega))⟩
   ·by_cases h1 : 1 < s.size
    ·by_cases h48 : (s[0]).toNat = 48
     ·have hz48 : (((s[0]).toNat : Int) == 48) = true := by simp [h48]
      have H48 := Lib.hid h48; clear h48
      go_enter Tryz.func52, Tryz.ntmps52
      go_wp2_with (first|(go_at_call 63; refine (digit_any _ _ hc0 hc1).mono ?_; rintro e w' ⟨rfl, rfl⟩; rw [HDG.out, HD.out]) | (go_at_call 64; refine (containsBig_any s _).mono ?_; rintro e w' ⟨rfl, hbl⟩; rw [HB.out]))
      refine (show _ ∧ _ from ⟨rfl, ?_⟩)
      unfold NamedPost
      rw [HF.out, if_pos (.inr ⟨h1, H48.out⟩)]
      exact ⟨rfl, (((Below.refl _ _).alloc (Nat.le_refl _) _).alloc (by simp) _).trans (hbl.mono (by simp; omega))⟩
     ·have hz48 : (((s[0]).toNat : Int) == 48) = false := by simp; omega
      go_enter Tryz.func52, Tryz.ntmps52
      go_wp2_with (first|(go_at_call 63; refine (digit_any _ _ hc0 hc1).mono ?_; rintro e w' ⟨rfl, rfl⟩; rw [HDG.out, HD.out]) | (go_at_call 64; refine (containsBig_any s _).mono ?_; rintro e w' ⟨rfl, hbl⟩; rw [HB.out]; have hz := hbl.size; simp only [World.size_alloc] at hz; have hb0 := Lib.hid (blk_below (blk_alloc (blk_new w _) _) hbl); obtain ⟨hc, hf⟩ := bcell hbl; simp only [World.size_alloc] at hc hf))
      have hb1 := blk_below (blk_new ((w.alloc _)) _) hbl
      simp only [World.size_alloc] at hb1
      replace hb1 := Lib.hid hb1
      have HA := Lib.hid (atoi_any s (HLex.num s.data.toList : Int) (w'.setCell ⟨w.heap.size + 1, 0, none⟩ (.int .i64 3)) (by omega) HAT.out)
      refine HA.out.mono ?_
      rintro e w2 ⟨rfl, hb2⟩
      have hB1 := blk_below (blk_put hb1.out 0 (.int .i64 3) rfl) hb2
      have hB0 := blk_below (blk_far (p := ⟨w.heap.size + 1, 0, none⟩) hb0.out (by simp) (.int .i64 3)) hb2
      have c10 := blk_cell hB1 0; have c11 := blk_cell hB1 1; have c12 := blk_cell hB1 2; have c13 := blk_cell hB1 3
      have c00 := blk_cell hB0 0; have c01 := blk_cell hB0 1; have c02 := blk_cell hB0 2; have c03 := blk_cell hB0 3
      have z1 := fun i => blk_frozen hB1 i
      have z0 := fun i => blk_frozen hB0 i
      have HB0 := Lib.hid hB0; have HB1 := Lib.hid hB1; clear hB0 hB1 hc hf HA
      simp at c10 c11 c12 c13 c00 c01 c02 c03
      go_wp2_with fail
      refine bodyPost_ret (v := .agg #[.int .i64 3, .string s, .int .i64 (HLex.num s.data.toList : Int), .int .i64 0]) (results_cell_row rfl _ _ w.heap.size 49 #[.int .i64 3, .string s, .int .i64 (HLex.num s.data.toList : Int), .int .i64 0] (0, 0) _ rfl (blk_put (blk_put (blk_put (blk_put (blk_far HB0.out (by simp) _) 0 _ rfl) 1 _ rfl) 2 _ rfl) 3 _ rfl) Tryz.underlying49 rfl (by kernel_rfl)) rfl ?_
      unfold NamedPost
      rw [HF.out, if_neg (by omega)]
      exact ⟨rfl, below_set (below_set (below_set (below_set (below_set (below_step (below_set (below_step (below_alloc (below_alloc (Below.refl _ w) _) _) hbl) (by omega)) hb2) (by omega)) (by omega)) (by omega)) (by omega)) (by omega)⟩
    ·go_enter Tryz.func52, Tryz.ntmps52
     go_wp2_with (first|(go_at_call 63; refine (digit_any _ _ hc0 hc1).mono ?_; rintro e w' ⟨rfl, rfl⟩; rw [HDG.out, HD.out]) | (go_at_call 64; refine (containsBig_any s _).mono ?_; rintro e w' ⟨rfl, hbl⟩; rw [HB.out]; have hz := hbl.size; simp only [World.size_alloc] at hz; have hb0 := Lib.hid (blk_below (blk_alloc (blk_new w _) _) hbl); obtain ⟨hc, hf⟩ := bcell hbl; simp only [World.size_alloc] at hc hf))
     have hb1 := blk_below (blk_new ((w.alloc _)) _) hbl
     simp only [World.size_alloc] at hb1
     replace hb1 := Lib.hid hb1
     have HA := Lib.hid (atoi_any s (HLex.num s.data.toList : Int) (w'.setCell ⟨w.heap.size + 1, 0, none⟩ (.int .i64 3)) (by omega) HAT.out)
     refine HA.out.mono ?_
     rintro e w2 ⟨rfl, hb2⟩
     have hB1 := blk_below (blk_put hb1.out 0 (.int .i64 3) rfl) hb2
     have hB0 := blk_below (blk_far (p := ⟨w.heap.size + 1, 0, none⟩) hb0.out (by simp) (.int .i64 3)) hb2
     have c10 := blk_cell hB1 0; have c11 := blk_cell hB1 1; have c12 := blk_cell hB1 2; have c13 := blk_cell hB1 3
     have c00 := blk_cell hB0 0; have c01 := blk_cell hB0 1; have c02 := blk_cell hB0 2; have c03 := blk_cell hB0 3
     have z1 := fun i => blk_frozen hB1 i
     have z0 := fun i => blk_frozen hB0 i
     have HB0 := Lib.hid hB0; have HB1 := Lib.hid hB1; clear hB0 hB1 hc hf HA
     simp at c10 c11 c12 c13 c00 c01 c02 c03
     go_wp2_with fail
     refine bodyPost_ret (v := .agg #[.int .i64 3, .string s, .int .i64 (HLex.num s.data.toList : Int), .int .i64 0]) (results_cell_row rfl _ _ w.heap.size 49 #[.int .i64 3, .string s, .int .i64 (HLex.num s.data.toList : Int), .int .i64 0] (0, 0) _ rfl (blk_put (blk_put (blk_put (blk_put (blk_far HB0.out (by simp) _) 0 _ rfl) 1 _ rfl) 2 _ rfl) 3 _ rfl) Tryz.underlying49 rfl (by kernel_rfl)) rfl ?_
     unfold NamedPost
     rw [HF.out, if_neg (by omega)]
     exact ⟨rfl, below_set (below_set (below_set (below_set (below_set (below_step (below_set (below_step (below_alloc (below_alloc (Below.refl _ w) _) _) hbl) (by omega)) hb2) (by omega)) (by omega)) (by omega)) (by omega)) (by omega)⟩
  ·have hfin : HLex.named s.data.toList = .error 10 := by
    unfold HLex.named; rw [hh]; simp [hd, hb]
   have HF := Lib.hid hfin; clear hfin
   have HD := Lib.hid hd; clear hd
   have HB := Lib.hid hb; clear hb
   have HDG := Lib.hid hdg; clear hdg
   clear hh hsz hw hup
   go_enter Tryz.func52, Tryz.ntmps52
   go_wp2_with (first|(go_at_call 63; refine (digit_any _ _ hc0 hc1).mono ?_; rintro e w' ⟨rfl, rfl⟩; rw [HDG.out, HD.out]) | (go_at_call 64; refine (containsBig_any s _).mono ?_; rintro e w' ⟨rfl, hbl⟩; rw [HB.out]))
   refine (show _ ∧ _ from ⟨rfl, ?_⟩)
   unfold NamedPost
   rw [HF.out]
   exact ⟨rfl, (((Below.refl _ _).alloc (Nat.le_refl _) _).alloc (by simp) _).trans (hbl.mono (by simp; omega))⟩

end Go.Proofs.YthdkjfhpbigdpaaGreatDoor.HLexC

/- The walk of lex.first, in the words of HLex. -/
namespace Go.Proofs.YthdkjfhpbigdpaaGreatDoor.HLexC
open Go Go.RowKit Go.Lib Go.Proofs Go.Proofs.YthdkjfhpbigdpaaGreatDoorW.PrintWords Go.Proofs.YthdkjfhpbigdpaaGreatDoorW.PrintLast Go.Proofs.YthdkjfhpbigdpaaGreatDoorW.PrintMore
set_option linter.unusedVariables false
set_option linter.unusedSimpArgs false


def signsB : List ByteArray := [⟨#[45, 62]⟩, ⟨#[61, 61]⟩, ⟨#[92]⟩, ⟨#[46]⟩, ⟨#[40]⟩, ⟨#[41]⟩, ⟨#[61]⟩, ⟨#[123]⟩, ⟨#[125]⟩, ⟨#[124]⟩, ⟨#[43]⟩, ⟨#[45]⟩, ⟨#[42]⟩, ⟨#[47]⟩, ⟨#[60]⟩]
def signsV : Array Value := #[.string ⟨#[45, 62]⟩, .string ⟨#[61, 61]⟩, .string ⟨#[92]⟩, .string ⟨#[46]⟩, .string ⟨#[40]⟩, .string ⟨#[41]⟩, .string ⟨#[61]⟩, .string ⟨#[123]⟩, .string ⟨#[125]⟩, .string ⟨#[124]⟩, .string ⟨#[43]⟩, .string ⟨#[45]⟩, .string ⟨#[42]⟩, .string ⟨#[47]⟩, .string ⟨#[60]⟩]

theorem signs_any (w : World) :
  Calls Tryz.prog 53 #[] w fun e w' => e = .returned (.agg signsV) ∧ Below w.heap.size w w' := by
 go_enter Tryz.func53, Tryz.ntmps53
 go_wp2
 exact bodyPost_ret (v := .agg signsV) (results_cell_row rfl _ _ w.heap.size 82 signsV (0, 0) _ rfl (blk_new w _) Tryz.underlying82 rfl (by kernel_rfl)) rfl ⟨rfl, (Below.refl _ w).alloc (Nat.le_refl _) _⟩

theorem takeWhile_forall (q : UInt8 → Bool) (l : List UInt8) : ∀ c ∈ l.takeWhile q, q c = true := by
 induction l with
 | nil => intro c hc; simp at hc
 | cons a t ih =>
  intro c hc
  rw [List.takeWhile_cons] at hc
  split at hc
  ·rcases List.mem_cons.1 hc with rfl | h
   ·assumption
   ·exact ih c h
  ·simp at hc
theorem first_of_ok {l : List UInt8} {kd n : Nat} (hne : l.takeWhile HLex.wordly ≠ []) (h : HLex.named (l.takeWhile HLex.wordly) = .ok (kd, n)) : HLex.first l = .ok (kd, l.takeWhile HLex.wordly, n) := by
 unfold HLex.first; simp only [hne, if_false, h]
theorem first_of_err {l : List UInt8} {er : Nat} (hne : l.takeWhile HLex.wordly ≠ []) (h : HLex.named (l.takeWhile HLex.wordly) = .error er) : HLex.first l = .error er := by
 unfold HLex.first; simp only [hne, if_false, h]
theorem take_data (s : ByteArray) (k : Nat) : (s.extract 0 k).data.toList = s.data.toList.take k := by
 rw [Lib.extract_data]; simp
theorem prefix_take (p l : List UInt8) : p.isPrefixOf l = (decide (p.length ≤ l.length) && (l.take p.length == p)) := by
 rw [Bool.eq_iff_iff]
 simp only [List.isPrefixOf_iff_prefix, Bool.and_eq_true, decide_eq_true_eq, beq_iff_eq]
 constructor
 ·intro h; exact ⟨h.length_le, (List.prefix_iff_eq_take.1 h).symm⟩
 ·rintro ⟨_, h⟩; rw [← h]; exact List.take_prefix _ _
set_option maxHeartbeats 1000000 in
theorem hasPrefix_any (s p : ByteArray) (w : World) (hs : s.size ≤ 9223372036854775807) :
  Calls Tryz.prog 54 #[.string s, .string p] w fun e w' => e = .returned (.bool (p.data.toList.isPrefixOf s.data.toList)) ∧ w = w' := by
 have e1 : s.data.toList.length = s.size := Array.length_toList
 have e2 : p.data.toList.length = p.size := Array.length_toList
 have hp := prefix_take p.data.toList s.data.toList
 rw [e1, e2] at hp
 have HP := Lib.hid hp
 clear hp e1 e2
 by_cases hle : p.size ≤ s.size
 ·have hd : decide (p.size ≤ s.size) = true := decide_eq_true hle
  go_enter Tryz.func54, Tryz.ntmps54
  go_wp2
  go_ret
  refine ⟨?_, rfl⟩
  show Ending.returned (.bool ((s.extract 0 p.size).toList == p.toList)) = _
  rw [HP.out, hd, Bool.true_and, Lib.toList_data, Lib.toList_data, HLexC.take_data]
 ·have hd : decide (p.size ≤ s.size) = false := decide_eq_false hle
  go_enter Tryz.func54, Tryz.ntmps54
  go_wp2
  go_ret
  exact ⟨by rw [HP.out, hd]; rfl, rfl⟩
def FirstPost (s : ByteArray) (w : World) (e : Ending) (w' : World) : Prop :=
 (match HLex.first s.data.toList with
  | .ok (k, t, n) => e = .returned (.agg #[.int .i64 (k : Int), .string ⟨t.toArray⟩, .int .i64 (n : Int), .int .i64 0])
  | .error er => e = .panicked [{ v := .iface 57 (.agg #[.int .i64 (er : Int)]), recovered := false }]) ∧ Below w.heap.size w w'

set_option maxHeartbeats 2000000 in
theorem first_word (s : ByteArray) (w : World) (hmax : s.size ≤ 9223372036854775807) (hne : s.data.toList.takeWhile HLex.wordly ≠ []) :
  Calls Tryz.prog 38 #[.string s] w (FirstPost s w) := by
 have hidx := HLex.idx_run s
 have hk0 : 0 < (s.data.toList.takeWhile HLex.wordly).length := List.length_pos_iff.2 hne
 have hkl := HLex.takeWhile_len_le HLex.wordly s.data.toList
 have e1 : s.data.toList.length = s.size := Array.length_toList
 rw [e1] at hkl
 generalize hk : (s.data.toList.takeWhile HLex.wordly).length = k at *
 by_cases hlt : k < s.size
 ·rw [if_pos hlt] at hidx
  have HI := Lib.hid hidx; clear hidx
  go_enter Tryz.func38, Tryz.ntmps38
  go_wp2_with (go_at_call 49; refine (indexRun_any s _).mono ?_; rintro e w' ⟨rfl, hbl⟩; rw [HI.out])
  have hx : (s.extract 0 k).data.toList = s.data.toList.takeWhile HLex.wordly := by rw [take_data, ← hk, HLex.takeWhile_take]
  have hxs : (s.extract 0 k).size = k := by
   have : (s.extract 0 k).data.toList.length = (s.extract 0 k).size := Array.length_toList
   rw [hx] at this; omega
  have hxw : ∀ c ∈ (s.extract 0 k).data.toList, HLex.wordly c = true := by
   rw [hx]; exact takeWhile_forall _ _
  have hse : ∀ er, HLex.named (s.extract 0 k).data.toList = .error er → HLex.first s.data.toList = .error er := by
   rw [hx]; intro er h; exact first_of_err hne h
  have hso : ∀ kd n, HLex.named (s.extract 0 k).data.toList = .ok (kd, n) → HLex.first s.data.toList = .ok (kd, (s.extract 0 k).data.toList, n) := by
   rw [hx]; intro kd n h; exact first_of_ok hne h
  have HSE := Lib.hid hse
  have HSO := Lib.hid hso
  have hb0 := blk_below (blk_new w _) hbl
  have HB0 := Lib.hid hb0
  have HX := Lib.hid hxw
  clear hse hso hx hxw hb0
  generalize hxg : s.extract 0 k = x at *
  clear hxg
  refine (named_any x w' (by omega) (by omega) HX.out).mono ?_
  rintro e w2 ⟨hres, hb2⟩
  cases hnm : HLex.named x.data.toList with
  | error er =>
   rw [hnm] at hres
   have hs2 := HSE.out er hnm
   simp only at hres
   subst hres
   refine (show _ ∧ _ from ⟨rfl, ?_⟩)
   unfold FirstPost
   rw [hs2]
   exact ⟨rfl, below_step (below_step (below_alloc (Below.refl _ w) _) hbl) hb2⟩
  | ok kn =>
   obtain ⟨kd, n⟩ := kn
   rw [hnm] at hres
   have hs2 := HSO.out kd n hnm
   simp only at hres
   subst hres
   have hB2 := blk_below HB0.out hb2
   have c0 := blk_cell hB2 0; have c1 := blk_cell hB2 1; have c2 := blk_cell hB2 2; have c3 := blk_cell hB2 3
   have z0 := fun i => blk_frozen hB2 i
   replace HB0 := Lib.hid hB2
   have HS := Lib.hid hs2
   clear hB2 hs2 hnm
   simp at c0 c1 c2 c3
   go_wp2_with fail
   refine bodyPost_ret (v := .agg #[.int .i64 (kd : Int), .string x, .int .i64 (n : Int), .int .i64 0]) (results_cell_row rfl _ _ w.heap.size 49 #[.int .i64 (kd : Int), .string x, .int .i64 (n : Int), .int .i64 0] (0, 0) _ rfl (blk_put (blk_put (blk_put (blk_put HB0.out 0 _ rfl) 1 _ rfl) 2 _ rfl) 3 _ rfl) Tryz.underlying49 rfl (by kernel_rfl)) rfl ?_
   unfold FirstPost
   rw [HS.out]
   exact ⟨rfl, below_set (below_set (below_set (below_set (below_step (below_step (below_alloc (Below.refl _ w) _) hbl) hb2) (by omega)) (by omega)) (by omega)) (by omega)⟩
 ·have hks : k = s.size := by omega
  rw [if_neg hlt] at hidx
  have hall : s.data.toList.takeWhile HLex.wordly = s.data.toList := HLex.takeWhile_all (by omega)
  have HI := Lib.hid hidx; clear hidx
  go_enter Tryz.func38, Tryz.ntmps38
  go_wp2_with (go_at_call 49; refine (indexRun_any s _).mono ?_; rintro e w' ⟨rfl, hbl⟩; rw [HI.out])
  have hx : s.data.toList = s.data.toList.takeWhile HLex.wordly := hall.symm
  have hxw : ∀ c ∈ s.data.toList, HLex.wordly c = true := by
   rw [hall.symm]; exact takeWhile_forall _ _
  have hse : ∀ er, HLex.named s.data.toList = .error er → HLex.first s.data.toList = .error er := by
   intro er h; exact first_of_err hne (by rw [hall]; exact h)
  have hso : ∀ kd n, HLex.named s.data.toList = .ok (kd, n) → HLex.first s.data.toList = .ok (kd, s.data.toList, n) := by
   intro kd n h; rw [first_of_ok hne (by rw [hall]; exact h), hall]
  have HSE := Lib.hid hse
  have HSO := Lib.hid hso
  have hb0 := blk_below (blk_new w _) hbl
  have HB0 := Lib.hid hb0
  have HX := Lib.hid hxw
  clear hse hso hx hxw hb0
  clear hk hne hall e1
  refine (named_any s w' (by omega) (by omega) HX.out).mono ?_
  rintro e w2 ⟨hres, hb2⟩
  cases hnm : HLex.named s.data.toList with
  | error er =>
   rw [hnm] at hres
   have hs2 := HSE.out er hnm
   simp only at hres
   subst hres
   refine (show _ ∧ _ from ⟨rfl, ?_⟩)
   unfold FirstPost
   rw [hs2]
   exact ⟨rfl, below_step (below_step (below_alloc (Below.refl _ w) _) hbl) hb2⟩
  | ok kn =>
   obtain ⟨kd, n⟩ := kn
   rw [hnm] at hres
   have hs2 := HSO.out kd n hnm
   simp only at hres
   subst hres
   have hB2 := blk_below HB0.out hb2
   have c0 := blk_cell hB2 0; have c1 := blk_cell hB2 1; have c2 := blk_cell hB2 2; have c3 := blk_cell hB2 3
   have z0 := fun i => blk_frozen hB2 i
   replace HB0 := Lib.hid hB2
   have HS := Lib.hid hs2
   clear hB2 hs2 hnm
   simp at c0 c1 c2 c3
   go_wp2_with fail
   refine bodyPost_ret (v := .agg #[.int .i64 (kd : Int), .string s, .int .i64 (n : Int), .int .i64 0]) (results_cell_row rfl _ _ w.heap.size 49 #[.int .i64 (kd : Int), .string s, .int .i64 (n : Int), .int .i64 0] (0, 0) _ rfl (blk_put (blk_put (blk_put (blk_put HB0.out 0 _ rfl) 1 _ rfl) 2 _ rfl) 3 _ rfl) Tryz.underlying49 rfl (by kernel_rfl)) rfl ?_
   unfold FirstPost
   rw [HS.out]
   exact ⟨rfl, below_set (below_set (below_set (below_set (below_step (below_step (below_alloc (Below.refl _ w) _) hbl) hb2) (by omega)) (by omega)) (by omega)) (by omega)⟩

theorem find_lemma (l : List UInt8) (k : Nat) (hk : k < 15) (hno : ∀ j, j < k → (HLex.signs.getD j []).isPrefixOf l = false) (hyes : (HLex.signs.getD k []).isPrefixOf l = true) :
  HLex.signs.find? (fun s => s.isPrefixOf l) = some (HLex.signs.getD k []) := by
 rw [List.find?_eq_some_iff_getElem]
 refine ⟨hyes, k, hk, ?_, ?_⟩
 ·rw [List.getD_eq_getElem?_getD, List.getElem?_eq_getElem (show k < HLex.signs.length from hk)]; rfl
 ·intro j hj
  have := hno j hj
  rw [List.getD_eq_getElem?_getD, List.getElem?_eq_getElem (show j < HLex.signs.length from Nat.lt_trans hj hk)] at this
  simpa using this
theorem find_none (l : List UInt8) (hno : ∀ j, j < 15 → (HLex.signs.getD j []).isPrefixOf l = false) : HLex.signs.find? (fun s => s.isPrefixOf l) = none := by
 rw [List.find?_eq_none]
 intro x hx
 obtain ⟨j, hj, rfl⟩ := List.getElem_of_mem hx
 have := hno j hj
 rw [List.getD_eq_getElem?_getD, List.getElem?_eq_getElem hj, Option.getD_some] at this
 rw [this]; exact Bool.false_ne_true

set_option maxRecDepth 100000 in
theorem index_signs (k : Nat) (hk : k < 15) : ∀ w : World, (Instr.index 82 (.agg signsV) (.int .i64 k)).run Tryz.prog w = .ok (.string (signsB.getD k ByteArray.empty)) w := by
 have hk15 : k = 0 ∨ k = 1 ∨ k = 2 ∨ k = 3 ∨ k = 4 ∨ k = 5 ∨ k = 6 ∨ k = 7 ∨ k = 8 ∨ k = 9 ∨ k = 10 ∨ k = 11 ∨ k = 12 ∨ k = 13 ∨ k = 14 := by omega
 rcases hk15 with rfl|rfl|rfl|rfl|rfl|rfl|rfl|rfl|rfl|rfl|rfl|rfl|rfl|rfl|rfl
 all_goals exact fun w => by kernel_rfl

theorem signs_same (k : Nat) (hk : k < 15) : (signsB[k]?.getD ByteArray.empty).data.toList = HLex.signs.getD k [] := by
 have hk15 : k = 0 ∨ k = 1 ∨ k = 2 ∨ k = 3 ∨ k = 4 ∨ k = 5 ∨ k = 6 ∨ k = 7 ∨ k = 8 ∨ k = 9 ∨ k = 10 ∨ k = 11 ∨ k = 12 ∨ k = 13 ∨ k = 14 := by omega
 rcases hk15 with rfl|rfl|rfl|rfl|rfl|rfl|rfl|rfl|rfl|rfl|rfl|rfl|rfl|rfl|rfl
 all_goals rfl

set_option maxHeartbeats 4000000 in
theorem first_sign (s : ByteArray) (w : World) (hmax : s.size ≤ 9223372036854775807) (hn : 0 < s.size) (hne : s.data.toList.takeWhile HLex.wordly = []) :
  Calls Tryz.prog 38 #[.string s] w (FirstPost s w) := by
 have hidx := HLex.idx_run s
 rw [hne, List.length_nil, if_pos hn] at hidx
 have HI := Lib.hid hidx; clear hidx
 have hF1 : ∀ x, HLex.signs.find? (fun x => x.isPrefixOf s.data.toList) = some x → HLex.first s.data.toList = .ok (5, x, 0) := by
  intro o ho; unfold HLex.first; simp only [hne, if_true, ho]
 have hF2 : HLex.signs.find? (fun x => x.isPrefixOf s.data.toList) = none → HLex.first s.data.toList = .error 10 := by
  intro ho; unfold HLex.first; simp only [hne, if_true, ho]
 have HF1 := Lib.hid hF1; have HF2 := Lib.hid hF2; clear hF1 hF2 hne
 go_enter Tryz.func38, Tryz.ntmps38
 go_wp2_with (first|(go_at_call 49; refine (indexRun_any s _).mono ?_; rintro e w' ⟨rfl, hbl⟩; rw [HI.out]) | (go_at_call 53; refine (signs_any _).mono ?_; rintro e w2 ⟨rfl, hb2⟩))
 go_loop [5, 19] (fun _ i => ∃ k : Nat, k ≤ 15 ∧ i = .int .i64 k ∧ Hid (∀ j, j < k → (HLex.signs.getD j []).isPrefixOf s.data.toList = false)) (fun _ i => 15 - (intOf i).toNat)
 case atStart => exact ⟨0, by omega, rfl, Lib.hid (fun j hj => absurd hj (Nat.not_lt_zero _))⟩
 case round =>
  obtain ⟨k, hk, rfl, hno⟩ := hrel
  by_cases hlt : k < 15
  ·have hix := index_signs k hlt
   have hsk := signs_same k hlt
   have hb0 := blk_below (blk_below (blk_new w _) hbl) hb2
   have c0 := blk_cell hb0 0; have c1 := blk_cell hb0 1; have c2 := blk_cell hb0 2; have c3 := blk_cell hb0 3
   have z0 := fun i => blk_frozen hb0 i
   have HB0 := Lib.hid hb0; have HSK := Lib.hid hsk
   clear hb0 hsk
   simp at c0 c1 c2 c3
   cases hp : (HLex.signs.getD k []).isPrefixOf s.data.toList
   ·have HP := Lib.hid hp
    clear hp
    go_wp2_with (go_at_call 54; refine (hasPrefix_any s _ _ hmax).mono ?_; rintro e w3 ⟨rfl, rfl⟩; rw [show (signsB[k]?.getD ByteArray.empty).data.toList = HLex.signs.getD k [] from HSK.out, HP.out])
    go_round
    case rel =>
     refine ⟨k + 1, by omega, by go_num, Lib.hid (fun j hj => ?_)⟩
     rcases Nat.lt_succ_iff_lt_or_eq.1 hj with h|rfl
     ·exact hno.out j h
     ·exact HP.out
    case measure => simp [intOf]; omega
   ·have HP := Lib.hid hp
    clear hp
    go_wp2_with (go_at_call 54; refine (hasPrefix_any s _ _ hmax).mono ?_; rintro e w3 ⟨rfl, rfl⟩; rw [show (signsB[k]?.getD ByteArray.empty).data.toList = HLex.signs.getD k [] from HSK.out, HP.out])
    have hf := HF1.out _ (find_lemma _ k hlt hno.out HP.out)
    have hx : (⟨(HLex.signs.getD k []).toArray⟩ : ByteArray) = signsB[k]?.getD ByteArray.empty := by rw [← HSK.out]
    refine bodyPost_ret (v := .agg #[.int .i64 5, .string (signsB[k]?.getD ByteArray.empty), .int .i64 0, .int .i64 0]) (results_cell_row rfl _ _ w.heap.size 49 #[.int .i64 5, .string (signsB[k]?.getD ByteArray.empty), .int .i64 0, .int .i64 0] (0, 0) _ rfl (blk_put (blk_put (blk_put (blk_put HB0.out 0 _ rfl) 1 _ rfl) 2 _ rfl) 3 _ rfl) Tryz.underlying49 rfl (by kernel_rfl)) rfl ?_
    unfold FirstPost
    rw [hf]
    simp only [hx]
    exact ⟨rfl, below_set (below_set (below_set (below_set (below_step (below_step (below_alloc (Below.refl _ w) _) hbl) hb2) (by omega)) (by omega)) (by omega)) (by omega)⟩
  ·go_wp2_with fail
   have hf := HF2.out (find_none _ (fun j hj => hno.out j (by omega)))
   refine (show _ ∧ _ from ⟨rfl, ?_⟩)
   unfold FirstPost
   rw [hf]
   exact ⟨rfl, below_step (below_step (below_alloc (Below.refl _ w) _) hbl) hb2⟩

theorem first_any (s : ByteArray) (w : World) (hmax : s.size ≤ 9223372036854775807) (hn : 0 < s.size) :
  Calls Tryz.prog 38 #[.string s] w (FirstPost s w) := by
 by_cases hne : s.data.toList.takeWhile HLex.wordly = []
 ·exact first_sign s w hmax hn hne
 ·exact first_word s w hmax hne
end Go.Proofs.YthdkjfhpbigdpaaGreatDoor.HLexC
