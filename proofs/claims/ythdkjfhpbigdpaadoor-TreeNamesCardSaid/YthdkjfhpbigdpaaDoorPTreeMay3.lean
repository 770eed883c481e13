-- Written for this claim.
import Derived.Test.YthdkjfhpbigdpaaDoorQx8
import Derived.Test.YthdkjfhpbigdpaaDoorQx18
import Derived.Test.YthdkjfhpbigdpaaDoorPTreeMay2
import Derived.Deep.RegionWith
namespace Go.Proofs.YthdkjfhpbigdpaaDoor.Pure
open Go Go.RowKit Go.Lib Go.Proofs Go.Proofs.YthdkjfhpbigdpaaDoor.Q Go.Proofs.YthdkjfhpbigdpaaDoorW.PrintWords Go.Proofs.YthdkjfhpbigdpaaDoorW.PrintLast Go.Proofs.YthdkjfhpbigdpaaDoorW.PrintMore
open HTree
namespace TreeMay
set_option linter.unusedVariables false
set_option linter.unusedSimpArgs false
theorem may_any : ∀ (n : Nat) (x : T), height x ≤ n → wt x ≤ 1000000000 → MayC x
  | 0, x, hn, _ => by cases x; simp only [height] at hn; omega
  | n + 1, x, hn, hw => by
    have hh : height x = heights x.f4 + 1 := by cases x; rfl
    have hwx : wts x.f4 ≤ wt x := by cases x; simp only [wt]; omega
    have hsx : x.f1.size ≤ wt x := by cases x; simp only [wt]; omega
    have := len_wts x.f4
    exact may_step x (by omega) (by omega) fun y hy => may_any n y (by have := height_get hy; omega) (by have := wt_get hy; omega)
set_option maxRecDepth 100000 in
/-- tree.May, whatever trees. -/
theorem whole_any (x : T) (hw : wt x ≤ 1000000000) (w : World) (A : Option Addr) (c : Nat) (hC : Kd.C k24 w A x.f4.length x.f4) (hl : x.f4.length ≤ c) (htab : Lib.TabIs Tryd.prog w "strings.asciiSpace" .u8 Lib.asciiSpaceTab) :
    Calls Tryd.prog 15 #[.agg #[.int .i64 x.f0, .string x.f1, .int .i64 x.f2, .int .i64 x.f3, .slice A x.f4.length c]] w fun e w' => e = .returned (.bool (whole x)) ∧ Below w.heap.size w w' := by
  have HT := Lib.hid (tabBelow_of_tabIs htab)
  have HM := Lib.hid (may_any _ x (Nat.le_refl _) hw)
  clear htab
  have hba := below_alloc (Below.refl w.heap.size w) (Obj.cells #[.int .i64 x.f0, .string x.f1, .int .i64 x.f2, .int .i64 x.f3, .slice A x.f4.length c] 24)
  have h1 := blk_new w (Obj.cells #[.int .i64 x.f0, .string x.f1, .int .i64 x.f2, .int .i64 x.f3, .slice A x.f4.length c] 24)
  go_enter Tryd.func15, Tryd.ntmps15
  go_upto_region 1 with (fail)
  generalize hwq : w.alloc (Obj.cells #[.int .i64 x.f0, .string x.f1, .int .i64 x.f2, .int .i64 x.f3, .slice A x.f4.length c] 24) = wq at hba h1 ⊢
  clear hwq
  have HB := Lib.hid hba; have Ct := Lib.hid (Kd.C_below hC hba)
  have t0 := blk_cell h1 0; have t1 := blk_cell h1 1; have t2 := blk_cell h1 2; have t3 := blk_cell h1 3; have t4 := blk_cell h1 4
  simp only [List.getElem?_toArray, List.getElem?_cons_zero, List.getElem?_cons_succ] at t0 t1 t2 t3 t4
  clear hba h1 hC
  rcases Classical.em (x.f0 = 8) with q | q
  · have b8 : (x.f0 != 8) = false := bne_eq_false_iff_eq.2 q
    have HR : Hid (whole x = false) := Lib.hid (by unfold whole; rw [decide_eq_false (fun h => h q)]; rfl)
    clear q
    go_wp2_with fail
    go_ret
    exact ⟨by rw [HR.out]; rfl, HB.out⟩
  · have b8 : (x.f0 != 8) = true := bne_iff_ne.2 q
    have HR : Hid (whole x = may x) := Lib.hid (by unfold whole; rw [decide_eq_true q]; rfl)
    clear q
    go_wp2_with fail
    refine (HM.out _ _ _ Ct.out hl (HT.out.on HB.out).here).mono ?_
    rintro e w5 ⟨rfl, hb⟩
    have HB5 := Lib.hid (below_step HB.out hb)
    clear hb
    go_wp2_with fail
    go_ret
    exact ⟨by rw [HR.out]; rfl, HB5.out⟩
end TreeMay
end Go.Proofs.YthdkjfhpbigdpaaDoor.Pure
