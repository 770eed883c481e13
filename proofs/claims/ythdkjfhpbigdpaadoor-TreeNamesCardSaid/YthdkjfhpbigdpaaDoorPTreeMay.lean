-- Written for this claim.
import Derived.Test.YthdkjfhpbigdpaaDoorQx8
import Derived.Test.YthdkjfhpbigdpaaDoorQx18
import Derived.Test.YthdkjfhpbigdpaaDoorPTreeNm
import Derived.Deep.RegionWith
import Derived.Lib.AppendIntMem
namespace Go.Proofs.YthdkjfhpbigdpaaDoor.Pure
open Go Go.RowKit Go.Lib Go.Proofs Go.Proofs.YthdkjfhpbigdpaaDoor.Q Go.Proofs.YthdkjfhpbigdpaaDoorW.PrintWords Go.Proofs.YthdkjfhpbigdpaaDoorW.PrintLast Go.Proofs.YthdkjfhpbigdpaaDoorW.PrintMore
open HTree
namespace TreeMay
set_option linter.unusedVariables false
set_option linter.unusedSimpArgs false
def known (k : Int) : Bool := decide (1 ≤ k) && decide (k ≤ 10)
theorem zero49 (w : World) : (zeroValue 49).run Tryd.prog w = .ok (.agg #[.int .i64 0, .int .i64 0, .int .i64 0]) w := by kernel_rfl
theorem find_no (k : Int) (h : known k = false) : Instr.findNow (.int .i64) (.int .i64 k) (TreeMap.ents 10).toList 0 = some none := by
  have hne : ∀ i : Int, 1 ≤ i → i ≤ 10 → (k == i) = false := by
    intro i h1 h2
    refine beq_eq_false_iff_ne.2 ?_
    rintro rfl
    rw [known, decide_eq_true h1, decide_eq_true h2] at h; cases h
  have e : (TreeMap.ents 10).toList = [TreeMap.ent 1 1 0 0 0, TreeMap.ent 2 1 1 1 1, TreeMap.ent 3 0 2 2 2, TreeMap.ent 4 1 2 2 3, TreeMap.ent 5 1 2 2 4, TreeMap.ent 6 2 0 8 5, TreeMap.ent 7 0 2 9 6, TreeMap.ent 8 2 1 9 7, TreeMap.ent 9 0 0 0 8, TreeMap.ent 10 3 2 2 9] := rfl
  rw [e]
  simp [Instr.findNow, Instr.sameNow, TreeMap.ent, hne]
theorem look_at (k : Int) (w : World) (g : Nat) (hb : w.heap[g]? = some (.map (TreeMap.ents 10) 10)) (j : Nat) (v : Value) (hf : Instr.findNow (.int .i64) (.int .i64 k) (TreeMap.ents 10).toList 0 = some (some (j, v))) :
    (Instr.lookup 51 (.map (some g)) (.int .i64 k) true).run Tryd.prog w = .ok (.tuple #[v, .bool true]) w := by
  have hk : MapKept.IsKey (.int .i64) (.int .i64 k) := rfl
  simp [Instr.lookup, run_underlying TreeMap.hm, MapKept.run_getObj_map hb, MapKept.run_checkKey TreeMap.hd hk, MapKept.run_findKey TreeMap.hd hf, Result.andThen]
theorem look (k : Int) (w : World) (g : Nat) (hb : w.heap[g]? = some (.map (TreeMap.ents 10) 10)) :
    (Instr.lookup 51 (.map (some g)) (.int .i64 k) true).run Tryd.prog w = .ok (.tuple #[.agg #[.int .i64 (what k), .int .i64 (least k), .int .i64 (most k)], .bool (known k)]) w := by
  have hk : MapKept.IsKey (.int .i64) (.int .i64 k) := rfl
  cases h : known k with
  | false =>
    have hz : what k = 0 ∧ least k = 0 ∧ most k = 0 := by
      simp only [known, Bool.and_eq_false_imp, decide_eq_true_eq, decide_eq_false_iff_not] at h
      simp only [what, least, most]
      refine ⟨?_, ?_, ?_⟩ <;> (repeat' split) <;> omega
    rw [hz.1, hz.2.1, hz.2.2]
    simp [Instr.lookup, run_underlying TreeMap.hm, MapKept.run_getObj_map hb, MapKept.run_checkKey TreeMap.hd hk, MapKept.run_findKey TreeMap.hd (find_no k h), zero49, Result.andThen]
  | true =>
    simp only [known, Bool.and_eq_true, decide_eq_true_eq] at h
    have : k = 1 ∨ k = 2 ∨ k = 3 ∨ k = 4 ∨ k = 5 ∨ k = 6 ∨ k = 7 ∨ k = 8 ∨ k = 9 ∨ k = 10 := by omega
    rcases this with rfl | rfl | rfl | rfl | rfl | rfl | rfl | rfl | rfl | rfl
    · exact look_at _ w g hb 0 _ (by rfl)
    · exact look_at _ w g hb 1 _ (by rfl)
    · exact look_at _ w g hb 2 _ (by rfl)
    · exact look_at _ w g hb 3 _ (by rfl)
    · exact look_at _ w g hb 4 _ (by rfl)
    · exact look_at _ w g hb 5 _ (by rfl)
    · exact look_at _ w g hb 6 _ (by rfl)
    · exact look_at _ w g hb 7 _ (by rfl)
    · exact look_at _ w g hb 8 _ (by rfl)
    · exact look_at _ w g hb 9 _ (by rfl)
def MayC (x : T) : Prop := ∀ (w : World) (A : Option Addr) (c : Nat), Kd.C k24 w A x.f4.length x.f4 → x.f4.length ≤ c → Lib.TabIs Tryd.prog w "strings.asciiSpace" .u8 Lib.asciiSpaceTab →
  Calls Tryd.prog 21 #[.agg #[.int .i64 x.f0, .string x.f1, .int .i64 x.f2, .int .i64 x.f3, .slice A x.f4.length c]] w fun e w' => e = .returned (.bool (may x)) ∧ Below w.heap.size w w'
theorem part_is (t : T) (x : T) (i : Int) : HTree.part t.f0 t.f2 x i = if t.f0 = 7 ∧ 0 < i then decide (x.f0 = 8) && may x else if t.f0 = 8 ∧ i < t.f2 ∧ x.f0 ≠ 1 then false else decide (x.f0 ≠ 8) && may x := rfl
set_option maxRecDepth 100000 in
theorem part_any (t : T) (i : Nat) (hi : i < t.f4.length) (hl9 : t.f4.length ≤ 1000000000) (H : MayC t.f4[i]) (w : World) (A : Option Addr) (c : Nat) (hC : Kd.C k24 w A t.f4.length t.f4) (hl : t.f4.length ≤ c) (htab : Lib.TabIs Tryd.prog w "strings.asciiSpace" .u8 Lib.asciiSpaceTab) :
    Calls Tryd.prog 31 #[.agg #[.int .i64 t.f0, .string t.f1, .int .i64 t.f2, .int .i64 t.f3, .slice A t.f4.length c], .int .i64 i] w fun e w' => e = .returned (.bool (HTree.part t.f0 t.f2 t.f4[i] (i : Int))) ∧ Below w.heap.size w w' := by
  have HT := Lib.hid (tabBelow_of_tabIs htab)
  clear htab
  have HH := Lib.hid H
  clear H
  have hba := below_alloc (Below.refl w.heap.size w) (Obj.cells #[.int .i64 t.f0, .string t.f1, .int .i64 t.f2, .int .i64 t.f3, .slice A t.f4.length c] 24)
  have h1 := blk_new w (Obj.cells #[.int .i64 t.f0, .string t.f1, .int .i64 t.f2, .int .i64 t.f3, .slice A t.f4.length c] 24)
  go_enter Tryd.func31, Tryd.ntmps31
  go_upto_region 1 with (fail)
  generalize hwq : w.alloc (Obj.cells #[.int .i64 t.f0, .string t.f1, .int .i64 t.f2, .int .i64 t.f3, .slice A t.f4.length c] 24) = wq at hba h1 ⊢
  clear hwq
  have HB := Lib.hid hba; have Bt := Lib.hid h1; have Ct := Lib.hid (Kd.C_below hC hba)
  clear hba h1 hC
  have t0 := blk_cell Bt.out 0; have t1 := blk_cell Bt.out 1; have t2 := blk_cell Bt.out 2; have t3 := blk_cell Bt.out 3; have t4 := blk_cell Bt.out 4
  simp only [List.getElem?_toArray, List.getElem?_cons_zero, List.getElem?_cons_succ] at t0 t1 t2 t3 t4
  obtain ⟨ad, A3, c3, rfl, x0, x1, x2, x3, x4, hl3, hc3⟩ := at_T24 Ct.out (i : Int) (by omega) (by omega)
  simp only [Int.toNat_natCast] at x0 x1 x2 x3 x4
  have hrk : rd_T24 t.f4 (i : Int) = t.f4[i] := by
    unfold rd_T24
    rw [Int.toNat_natCast, List.getD_eq_getElem?_getD, List.getElem?_eq_getElem hi]; rfl
  rw [hrk] at x0 x1 x2 x3 x4 hl3 hc3
  generalize hx : t.f4[i] = x at *
  have Cx := Lib.hid hc3; have HX := Lib.hid hx
  clear hrk hx hc3
  go_upto_region 2 with (fail)
  have hbx := blk_new wq (Obj.cells #[.int .i64 x.f0, .string x.f1, .int .i64 x.f2, .int .i64 x.f3, .slice A3 x.f4.length c3] 24)
  have hbb := below_alloc (Below.refl wq.heap.size wq) (Obj.cells #[.int .i64 x.f0, .string x.f1, .int .i64 x.f2, .int .i64 x.f3, .slice A3 x.f4.length c3] 24)
  generalize wq.alloc (Obj.cells #[.int .i64 x.f0, .string x.f1, .int .i64 x.f2, .int .i64 x.f3, .slice A3 x.f4.length c3] 24) = ws at hbx hbb ⊢
  have hbt := blk_below Bt.out hbb
  have Bx := Lib.hid hbx; have B2 := Lib.hid hbt; have HB2 := Lib.hid (below_step HB.out hbb); have C2 := Lib.hid (Kd.C_below Cx.out hbb)
  clear hbx hbb hbt x0 x1 x2 x3 x4 t0 t1 t2 t3 t4 Bt HB Cx Ct
  have t0 := blk_cell B2.out 0; have t1 := blk_cell B2.out 1; have t2 := blk_cell B2.out 2; have t3 := blk_cell B2.out 3; have t4 := blk_cell B2.out 4
  simp only [List.getElem?_toArray, List.getElem?_cons_zero, List.getElem?_cons_succ] at t0 t1 t2 t3 t4
  have x0 := blk_cell Bx.out 0; have x1 := blk_cell Bx.out 1; have x2 := blk_cell Bx.out 2; have x3 := blk_cell Bx.out 3; have x4 := blk_cell Bx.out 4
  simp only [List.getElem?_toArray, List.getElem?_cons_zero, List.getElem?_cons_succ] at x0 x1 x2 x3 x4
  have HP := Lib.hid (part_is t x (i : Int))
  rcases Classical.em (t.f0 = 7) with q | q
  · have Q7 := Lib.hid q
    have b7 : (t.f0 == 7) = true := beq_iff_eq.2 q
    have n7 : (t.f0 != 7) = false := bne_eq_false_iff_eq.2 q
    clear q
    have b8 : (t.f0 == 8) = false := beq_eq_false_iff_ne.2 (by have := Q7.out; omega)
    rcases Classical.em (0 < i) with q | q
    · have Q0 := Lib.hid q
      have bg : decide ((i : Int) > 0) = true := decide_eq_true (by omega)
      have bg1 : decide (0 < i) = true := decide_eq_true q
      have bg2 : decide ((0 : Int) < (i : Int)) = true := decide_eq_true (by omega)
      clear q
      rcases Classical.em (x.f0 = 8) with q | q
      · have E := Lib.hid q
        have bx8 : (x.f0 == 8) = true := beq_iff_eq.2 q
        have nx8 : (x.f0 != 8) = false := bne_eq_false_iff_eq.2 q
        clear q
        have HR : Hid (HTree.part t.f0 t.f2 x (i : Int) = may x) := Lib.hid (by rw [HP.out]; rw [if_pos ⟨Q7.out, by have := Q0.out; omega⟩, decide_eq_true E.out, Bool.true_and])
        go_wp2_with fail
        refine (HH.out _ _ _ C2.out hl3 (HT.out.on HB2.out).here).mono ?_
        rintro e w5 ⟨rfl, hb⟩
        have HB5 := Lib.hid (below_step HB2.out hb)
        clear hb
        go_wp2_with fail
        go_ret
        exact ⟨by rw [HX.out, HR.out]; rfl, HB5.out⟩
      · have E := Lib.hid q
        have bx8 : (x.f0 == 8) = false := beq_eq_false_iff_ne.2 q
        have nx8 : (x.f0 != 8) = true := bne_iff_ne.2 q
        clear q
        have HR : Hid (HTree.part t.f0 t.f2 x (i : Int) = false) := Lib.hid (by rw [HP.out]; rw [if_pos ⟨Q7.out, by have := Q0.out; omega⟩, decide_eq_false E.out, Bool.false_and])
        go_wp2_with fail
        go_ret
        exact ⟨by rw [HX.out, HR.out]; rfl, HB2.out⟩
    · have Q0 := Lib.hid q
      have bg : decide ((i : Int) > 0) = false := decide_eq_false (by omega)
      have bg1 : decide (0 < i) = false := decide_eq_false q
      have bg2 : decide ((0 : Int) < (i : Int)) = false := decide_eq_false (by omega)
      clear q
      rcases Classical.em (x.f0 = 8) with q | q
      · have E := Lib.hid q
        have bx8 : (x.f0 == 8) = true := beq_iff_eq.2 q
        have nx8 : (x.f0 != 8) = false := bne_eq_false_iff_eq.2 q
        clear q
        have HR : Hid (HTree.part t.f0 t.f2 x (i : Int) = false) := Lib.hid (by rw [HP.out]; rw [if_neg (by have := Q0.out; omega), if_neg (by have := Q7.out; omega)]; simp [E.out])
        go_wp2_with fail
        go_ret
        exact ⟨by rw [HX.out, HR.out]; rfl, HB2.out⟩
      · have E := Lib.hid q
        have bx8 : (x.f0 == 8) = false := beq_eq_false_iff_ne.2 q
        have nx8 : (x.f0 != 8) = true := bne_iff_ne.2 q
        clear q
        have HR : Hid (HTree.part t.f0 t.f2 x (i : Int) = may x) := Lib.hid (by rw [HP.out]; rw [if_neg (by have := Q0.out; omega), if_neg (by have := Q7.out; omega)]; simp [E.out])
        go_wp2_with fail
        refine (HH.out _ _ _ C2.out hl3 (HT.out.on HB2.out).here).mono ?_
        rintro e w5 ⟨rfl, hb⟩
        have HB5 := Lib.hid (below_step HB2.out hb)
        clear hb
        go_wp2_with fail
        go_ret
        exact ⟨by rw [HX.out, HR.out]; rfl, HB5.out⟩
  · have Q7 := Lib.hid q
    have b7 : (t.f0 == 7) = false := beq_eq_false_iff_ne.2 q
    have n7 : (t.f0 != 7) = true := bne_iff_ne.2 q
    clear q
    rcases Classical.em (t.f0 = 8) with q | q
    · have Q8 := Lib.hid q
      have b8 : (t.f0 == 8) = true := beq_iff_eq.2 q
      have n8 : (t.f0 != 8) = false := bne_eq_false_iff_eq.2 q
      clear q
      rcases Classical.em ((i : Int) < t.f2) with q | q
      · have Q2 := Lib.hid q
        have bl : decide ((i : Int) < t.f2) = true := decide_eq_true q
        clear q
        rcases Classical.em (x.f0 = 1) with q | q
        · have E1 := Lib.hid q
          have bx1 : (x.f0 == 1) = true := beq_iff_eq.2 q
          have nx1 : (x.f0 != 1) = false := bne_eq_false_iff_eq.2 q
          clear q
          have nx8 : (x.f0 != 8) = true := bne_iff_ne.2 (by have := E1.out; omega)
          have HR : Hid (HTree.part t.f0 t.f2 x (i : Int) = may x) := Lib.hid (by rw [HP.out]; rw [if_neg (fun h => Q7.out h.1), if_neg (fun h => h.2.2 E1.out), decide_eq_true (by have := E1.out; omega), Bool.true_and])
          go_wp2_with fail
          refine (HH.out _ _ _ C2.out hl3 (HT.out.on HB2.out).here).mono ?_
          rintro e w5 ⟨rfl, hb⟩
          have HB5 := Lib.hid (below_step HB2.out hb)
          clear hb
          go_wp2_with fail
          go_ret
          exact ⟨by rw [HX.out, HR.out]; rfl, HB5.out⟩
        · have E1 := Lib.hid q
          have bx1 : (x.f0 == 1) = false := beq_eq_false_iff_ne.2 q
          have nx1 : (x.f0 != 1) = true := bne_iff_ne.2 q
          clear q
          have HR : Hid (HTree.part t.f0 t.f2 x (i : Int) = false) := Lib.hid (by rw [HP.out]; rw [if_neg (fun h => Q7.out h.1), if_pos ⟨Q8.out, Q2.out, E1.out⟩])
          go_wp2_with fail
          go_ret
          exact ⟨by rw [HX.out, HR.out]; rfl, HB2.out⟩
      · have Q2 := Lib.hid q
        have bl : decide ((i : Int) < t.f2) = false := decide_eq_false q
        clear q
        rcases Classical.em (x.f0 = 8) with q | q
        · have E := Lib.hid q
          have bx8 : (x.f0 == 8) = true := beq_iff_eq.2 q
          have nx8 : (x.f0 != 8) = false := bne_eq_false_iff_eq.2 q
          clear q
          have HR : Hid (HTree.part t.f0 t.f2 x (i : Int) = false) := Lib.hid (by rw [HP.out]; rw [if_neg (fun h => Q7.out h.1), if_neg (fun h => Q2.out h.2.1)]; simp [E.out])
          go_wp2_with fail
          go_ret
          exact ⟨by rw [HX.out, HR.out]; rfl, HB2.out⟩
        · have E := Lib.hid q
          have bx8 : (x.f0 == 8) = false := beq_eq_false_iff_ne.2 q
          have nx8 : (x.f0 != 8) = true := bne_iff_ne.2 q
          clear q
          have HR : Hid (HTree.part t.f0 t.f2 x (i : Int) = may x) := Lib.hid (by rw [HP.out]; rw [if_neg (fun h => Q7.out h.1), if_neg (fun h => Q2.out h.2.1)]; simp [E.out])
          go_wp2_with fail
          refine (HH.out _ _ _ C2.out hl3 (HT.out.on HB2.out).here).mono ?_
          rintro e w5 ⟨rfl, hb⟩
          have HB5 := Lib.hid (below_step HB2.out hb)
          clear hb
          go_wp2_with fail
          go_ret
          exact ⟨by rw [HX.out, HR.out]; rfl, HB5.out⟩
    · have Q8 := Lib.hid q
      have b8 : (t.f0 == 8) = false := beq_eq_false_iff_ne.2 q
      have n8 : (t.f0 != 8) = true := bne_iff_ne.2 q
      clear q
      rcases Classical.em (x.f0 = 8) with q | q
      · have E := Lib.hid q
        have bx8 : (x.f0 == 8) = true := beq_iff_eq.2 q
        have nx8 : (x.f0 != 8) = false := bne_eq_false_iff_eq.2 q
        clear q
        have HR : Hid (HTree.part t.f0 t.f2 x (i : Int) = false) := Lib.hid (by rw [HP.out]; rw [if_neg (fun h => Q7.out h.1), if_neg (fun h => Q8.out h.1)]; simp [E.out])
        go_wp2_with fail
        go_ret
        exact ⟨by rw [HX.out, HR.out]; rfl, HB2.out⟩
      · have E := Lib.hid q
        have bx8 : (x.f0 == 8) = false := beq_eq_false_iff_ne.2 q
        have nx8 : (x.f0 != 8) = true := bne_iff_ne.2 q
        clear q
        have HR : Hid (HTree.part t.f0 t.f2 x (i : Int) = may x) := Lib.hid (by rw [HP.out]; rw [if_neg (fun h => Q7.out h.1), if_neg (fun h => Q8.out h.1)]; simp [E.out])
        go_wp2_with fail
        refine (HH.out _ _ _ C2.out hl3 (HT.out.on HB2.out).here).mono ?_
        rintro e w5 ⟨rfl, hb⟩
        have HB5 := Lib.hid (below_step HB2.out hb)
        clear hb
        go_wp2_with fail
        go_ret
        exact ⟨by rw [HX.out, HR.out]; rfl, HB5.out⟩
end TreeMay
end Go.Proofs.YthdkjfhpbigdpaaDoor.Pure
