-- Written for this claim.
import Derived.Test.YthdkjfhpbigdpaaDoorQx5
import Derived.Test.YthdkjfhpbigdpaaDoorHTree
import Derived.Test.YthdkjfhpbigdpaaDoorHLexAll
import Derived.Deep.RegionWith
namespace Go.Proofs.YthdkjfhpbigdpaaDoor.Pure
open Go Go.RowKit Go.Lib Go.Proofs Go.Proofs.YthdkjfhpbigdpaaDoor.Q Go.Proofs.YthdkjfhpbigdpaaDoorW.PrintWords Go.Proofs.YthdkjfhpbigdpaaDoorW.PrintLast Go.Proofs.YthdkjfhpbigdpaaDoorW.PrintMore
open HTree
namespace TreeSm
set_option linter.unusedVariables false
set_option linter.unusedSimpArgs false
theorem sames_len : ∀ l l' : List T, ¬ l.length = l'.length → sames l l' = false
  | [], [], h => absurd rfl h
  | [], _ :: _, _ => rfl
  | _ :: _, [], _ => rfl
  | x :: l, y :: l', h => by
    simp only [List.length_cons] at h
    simp only [sames, sames_len l l' (by omega), Bool.and_false]
def SameC (x : T) : Prop := ∀ (y : T) (w : World) (A : Option Addr) (c : Nat) (A2 : Option Addr) (c2 : Nat), Kd.C k24 w A x.f4.length x.f4 → x.f4.length ≤ c → Kd.C k24 w A2 y.f4.length y.f4 → y.f4.length ≤ c2 →
  Calls Tryd.prog 11 #[.agg #[.int .i64 x.f0, .string x.f1, .int .i64 x.f2, .int .i64 x.f3, .slice A x.f4.length c], .agg #[.int .i64 y.f0, .string y.f1, .int .i64 y.f2, .int .i64 y.f3, .slice A2 y.f4.length c2]] w fun e w' => e = .returned (.bool (same x y)) ∧ Below w.heap.size w w'
set_option maxRecDepth 100000 in
theorem equal_any (l l' : List T) (hl : l.length ≤ 1000000000) (H : ∀ x ∈ l, SameC x) (w : World) (A : Option Addr) (c : Nat) (A2 : Option Addr) (c2 : Nat) (hc : Kd.C k24 w A l.length l) (hlc : l.length ≤ c) (hc2 : Kd.C k24 w A2 l'.length l') (hlc2 : l'.length ≤ c2) :
    Calls Tryd.prog 20 #[.slice A l.length c, .slice A2 l'.length c2, .func (.func 11) #[] #[]] w fun e w' => e = .returned (.bool (sames l l')) ∧ Below w.heap.size w w' := by
  have HC := Lib.hid hc; have HC2 := Lib.hid hc2; have HH := Lib.hid H
  clear hc hc2 H
  by_cases hn : l.length = l'.length
  · have b1 : ((l.length : Int) != (l'.length : Int)) = false := bne_eq_false_iff_eq.2 (by omega)
    have HN := Lib.hid hn
    have hl' : l'.length ≤ 1000000000 := by omega
    clear hn
    go_enter Tryd.func20, Tryd.ntmps20
    go_wp2_with fail
    go_loopw [17] (fun i wr => ∃ k : Nat, k ≤ l.length ∧ i = .int .i64 k ∧ Hid (sames l l' = sames (l.drop k) (l'.drop k)) ∧ Hid (Below w.heap.size w wr)) (fun i _ => l.length - (intOf i).toNat)
    case atStart => exact ⟨0, Nat.zero_le _, rfl, Lib.hid rfl, Lib.hid (Below.refl _ _)⟩
    case round =>
      obtain ⟨k, hk, rfl, HP, HB⟩ := hrel
      by_cases hlt : k < l.length
      · have hlt' : k < l'.length := by have := HN.out; omega
        obtain ⟨ad, A3, c3, rfl, x0, x1, x2, x3, x4, hl3, hc3⟩ := at_T24 (Kd.C_below HC.out HB.out) (k : Int) (by omega) (by omega)
        simp only [Int.toNat_natCast] at x0 x1 x2 x3 x4
        have hrk : rd_T24 l (k : Int) = l[k] := by
          unfold rd_T24
          rw [Int.toNat_natCast, List.getD_eq_getElem?_getD, List.getElem?_eq_getElem hlt]; rfl
        rw [hrk] at x0 x1 x2 x3 x4 hl3 hc3
        have hp := HP.out
        rw [List.drop_eq_getElem_cons hlt, List.drop_eq_getElem_cons hlt'] at hp
        simp only [sames] at hp
        have hy := HH.out l[k] (List.getElem_mem hlt)
        generalize l[k] = y at *
        have HY := Lib.hid hy; have HC3 := Lib.hid hc3; have HP1 := Lib.hid hp
        clear hrk hy hc3 hp HP
        go_upto_region 6 with (fail)
        have hb0 := blk_new wr (Obj.cells #[.int .i64 y.f0, .string y.f1, .int .i64 y.f2, .int .i64 y.f3, .slice A3 y.f4.length c3] 24)
        have hba := below_alloc (Below.refl wr.heap.size wr) (Obj.cells #[.int .i64 y.f0, .string y.f1, .int .i64 y.f2, .int .i64 y.f3, .slice A3 y.f4.length c3] 24)
        have hlt1 : wr.heap.size < (wr.alloc (Obj.cells #[.int .i64 y.f0, .string y.f1, .int .i64 y.f2, .int .i64 y.f3, .slice A3 y.f4.length c3] 24)).heap.size := blk_lt hb0
        generalize hwq : wr.alloc (Obj.cells #[.int .i64 y.f0, .string y.f1, .int .i64 y.f2, .int .i64 y.f3, .slice A3 y.f4.length c3] 24) = wq at hb0 hba hlt1 ⊢
        clear hwq
        have HB0 := Lib.hid hb0; have HBQ := Lib.hid (below_step HB.out hba); have HC3Q := Lib.hid (Kd.C_below HC3.out hba)
        clear hb0 hba x0 x1 x2 x3 x4
        obtain ⟨ad2, A4, c4, rfl, v0, v1, v2, v3, v4, hl4, hc4⟩ := at_T24 (Kd.C_below HC2.out HBQ.out) (k : Int) (by omega) (by omega)
        simp only [Int.toNat_natCast] at v0 v1 v2 v3 v4
        have hrk : rd_T24 l' (k : Int) = l'[k] := by
          unfold rd_T24
          rw [Int.toNat_natCast, List.getD_eq_getElem?_getD, List.getElem?_eq_getElem hlt']; rfl
        rw [hrk] at v0 v1 v2 v3 v4 hl4 hc4
        generalize l'[k] = z at *
        have HC4 := Lib.hid hc4
        clear hrk hc4
        have j1 : (k : Int) < (l'.length : Int) := by omega
        go_upto_region 7 with (fail)
        have hb0 := blk_new wq (Obj.cells #[.int .i64 z.f0, .string z.f1, .int .i64 z.f2, .int .i64 z.f3, .slice A4 z.f4.length c4] 24)
        have hba := below_alloc (Below.refl wq.heap.size wq) (Obj.cells #[.int .i64 z.f0, .string z.f1, .int .i64 z.f2, .int .i64 z.f3, .slice A4 z.f4.length c4] 24)
        generalize hwq : wq.alloc (Obj.cells #[.int .i64 z.f0, .string z.f1, .int .i64 z.f2, .int .i64 z.f3, .slice A4 z.f4.length c4] 24) = ws at hb0 hba ⊢
        clear hwq
        have h1 := blk_below HB0.out hba
        have u0 := blk_cell h1 0; have u1 := blk_cell h1 1; have u2 := blk_cell h1 2; have u3 := blk_cell h1 3; have u4 := blk_cell h1 4
        have s0 := blk_cell hb0 0; have s1 := blk_cell hb0 1; have s2 := blk_cell hb0 2; have s3 := blk_cell hb0 3; have s4 := blk_cell hb0 4
        simp only [List.getElem?_toArray, List.getElem?_cons_zero, List.getElem?_cons_succ] at u0 u1 u2 u3 u4 s0 s1 s2 s3 s4
        have hcall := HY.out z ws A3 c3 A4 c4 (Kd.C_below HC3Q.out hba) hl3 (Kd.C_below HC4.out hba) hl4
        have HCALL := Lib.hid hcall; have HBS := Lib.hid (below_step HBQ.out hba)
        clear hb0 hba h1 hcall v0 v1 v2 v3 v4
        go_wp2_with fail
        refine HCALL.out.mono ?_
        rintro e w5 ⟨rfl, hb⟩
        have HB5 := Lib.hid (below_step HBS.out hb)
        clear hb HCALL
        cases hs : same y z with
        | true =>
          have HS := Lib.hid hs
          clear hs
          go_wp2_with fail
          exact ⟨⟨k + 1, by omega, by first | rfl | go_num, Lib.hid (by rw [HP1.out, HS.out, Bool.true_and]), HB5⟩, by simp [intOf]; omega⟩
        | false =>
          have HF : Hid (sames l l' = false) := Lib.hid (by rw [HP1.out, hs, Bool.false_and])
          clear hs
          go_wp2_with fail
          go_ret
          exact ⟨congrArg (fun t => Ending.returned (Value.bool t)) HF.out.symm, HB5.out⟩
      · have hkl : k = l.length := by omega
        have HF : Hid (sames l l' = true) := Lib.hid (by rw [HP.out, hkl, List.drop_length, HN.out, List.drop_length]; rfl)
        subst hkl
        go_wp2_with fail
        go_ret
        exact ⟨congrArg (fun t => Ending.returned (Value.bool t)) HF.out.symm, HB.out⟩
  · have b1 : ((l.length : Int) != (l'.length : Int)) = true := bne_iff_ne.2 (by omega)
    have HF : Hid (sames l l' = false) := Lib.hid (sames_len l l' hn)
    clear hn
    go_enter Tryd.func20, Tryd.ntmps20
    go_wp2_with fail
    go_ret
    exact ⟨congrArg (fun t => Ending.returned (Value.bool t)) HF.out.symm, Below.refl _ _⟩
set_option maxRecDepth 100000 in
theorem same_step (x : T) (hw : x.f4.length ≤ 1000000000) (H : ∀ y ∈ x.f4, SameC y) : SameC x := by
  intro y w A c A2 c2 hc hlc hc2 hlc2
  have HC := Lib.hid hc; have HC2 := Lib.hid hc2; have HH := Lib.hid H
  clear hc hc2 H
  go_enter Tryd.func11, Tryd.ntmps11
  go_upto_region 1 with (fail)
  have h1 := blk_alloc (blk_new w (Obj.cells #[.int .i64 x.f0, .string x.f1, .int .i64 x.f2, .int .i64 x.f3, .slice A x.f4.length c] 24)) (Obj.cells #[.int .i64 y.f0, .string y.f1, .int .i64 y.f2, .int .i64 y.f3, .slice A2 y.f4.length c2] 24)
  have h2 := blk_new (w.alloc (Obj.cells #[.int .i64 x.f0, .string x.f1, .int .i64 x.f2, .int .i64 x.f3, .slice A x.f4.length c] 24)) (Obj.cells #[.int .i64 y.f0, .string y.f1, .int .i64 y.f2, .int .i64 y.f3, .slice A2 y.f4.length c2] 24)
  rw [World.size_alloc] at h2
  have hba := below_alloc (below_alloc (Below.refl w.heap.size w) (Obj.cells #[.int .i64 x.f0, .string x.f1, .int .i64 x.f2, .int .i64 x.f3, .slice A x.f4.length c] 24)) (Obj.cells #[.int .i64 y.f0, .string y.f1, .int .i64 y.f2, .int .i64 y.f3, .slice A2 y.f4.length c2] 24)
  generalize hwq : (w.alloc (Obj.cells #[.int .i64 x.f0, .string x.f1, .int .i64 x.f2, .int .i64 x.f3, .slice A x.f4.length c] 24)).alloc (Obj.cells #[.int .i64 y.f0, .string y.f1, .int .i64 y.f2, .int .i64 y.f3, .slice A2 y.f4.length c2] 24) = wq at h1 h2 hba ⊢
  clear hwq
  have u0 := blk_cell h1 0; have u1 := blk_cell h1 1; have u2 := blk_cell h1 2; have u3 := blk_cell h1 3; have u4 := blk_cell h1 4
  have s0 := blk_cell h2 0; have s1 := blk_cell h2 1; have s2 := blk_cell h2 2; have s3 := blk_cell h2 3; have s4 := blk_cell h2 4
  simp only [List.getElem?_toArray, List.getElem?_cons_zero, List.getElem?_cons_succ] at u0 u1 u2 u3 u4 s0 s1 s2 s3 s4
  have HB := Lib.hid hba
  have HE := Lib.hid (equal_any x.f4 y.f4 hw HH.out wq A c A2 c2 (Kd.C_below HC.out hba) hlc (Kd.C_below HC2.out hba) hlc2)
  have hsm : same x y = (decide (x.f0 = y.f0) && decide (x.f1.data.toList = y.f1.data.toList) && decide (x.f2 = y.f2) && sames x.f4 y.f4) := by cases x; cases y; rfl
  have HS := Lib.hid hsm
  clear h1 h2 hba hsm
  rcases Classical.em (x.f0 = y.f0) with q1 | q1
  · have b1 : (x.f0 == y.f0) = true := beq_iff_eq.2 q1
    have Q1 := Lib.hid (decide_eq_true q1)
    clear q1
    rcases Classical.em (x.f1.data.toList = y.f1.data.toList) with q2 | q2
    · have b2 : (x.f1.toList == y.f1.toList) = true := by rw [Lib.toList_data, Lib.toList_data]; exact beq_iff_eq.2 q2
      have Q2 := Lib.hid (decide_eq_true q2)
      clear q2
      rcases Classical.em (x.f2 = y.f2) with q3 | q3
      · have b3 : (x.f2 == y.f2) = true := beq_iff_eq.2 q3
        have Q3 := Lib.hid (decide_eq_true q3)
        clear q3
        go_wp2_with fail
        refine HE.out.mono ?_
        rintro e w5 ⟨rfl, hb⟩
        have HB5 := Lib.hid (below_step HB.out hb)
        clear hb HE
        go_wp2_with fail
        go_ret
        exact ⟨congrArg (fun t => Ending.returned (Value.bool t)) (by rw [HS.out, Q1.out, Q2.out, Q3.out]; rfl), HB5.out⟩
      · have b3 : (x.f2 == y.f2) = false := beq_eq_false_iff_ne.2 q3
        have Q3 := Lib.hid (decide_eq_false q3)
        clear q3
        go_wp2_with fail
        go_ret
        exact ⟨congrArg (fun t => Ending.returned (Value.bool t)) (show false = same x y by rw [HS.out, Q3.out, Bool.and_false, Bool.false_and]), HB.out⟩
    · have b2 : (x.f1.toList == y.f1.toList) = false := by rw [Lib.toList_data, Lib.toList_data]; exact beq_eq_false_iff_ne.2 q2
      have Q2 := Lib.hid (decide_eq_false q2)
      clear q2
      go_wp2_with fail
      go_ret
      exact ⟨congrArg (fun t => Ending.returned (Value.bool t)) (show false = same x y by rw [HS.out, Q2.out, Bool.and_false, Bool.false_and, Bool.false_and]), HB.out⟩
  · have b1 : (x.f0 == y.f0) = false := beq_eq_false_iff_ne.2 q1
    have Q1 := Lib.hid (decide_eq_false q1)
    clear q1
    go_wp2_with fail
    go_ret
    exact ⟨congrArg (fun t => Ending.returned (Value.bool t)) (show false = same x y by rw [HS.out, Q1.out, Bool.false_and, Bool.false_and, Bool.false_and]), HB.out⟩
/-- tree.Same, whatever trees. -/
theorem same_any : ∀ (n : Nat) (x : T), height x ≤ n → wt x ≤ 1000000000 → SameC x
  | 0, x, hn, _ => by cases x; simp only [height] at hn; omega
  | n + 1, x, hn, hw => by
    have hh : height x = heights x.f4 + 1 := by cases x; rfl
    have hwx : wts x.f4 ≤ wt x := by cases x; simp only [wt]; omega
    have := len_wts x.f4
    exact same_step x (by omega) fun y hy => same_any n y (by have := height_get hy; omega) (by have := wt_get hy; omega)
end TreeSm
end Go.Proofs.YthdkjfhpbigdpaaDoor.Pure
