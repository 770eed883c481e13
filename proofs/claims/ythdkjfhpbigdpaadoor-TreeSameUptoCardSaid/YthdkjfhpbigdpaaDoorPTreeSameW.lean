-- Written for this claim.
import Derived.Test.YthdkjfhpbigdpaaDoorQx25
import Derived.Test.YthdkjfhpbigdpaaDoorQx5
import Derived.Test.YthdkjfhpbigdpaaDoorQx4
import Derived.Test.YthdkjfhpbigdpaaDoorQx1
import Derived.Test.YthdkjfhpbigdpaaDoorQx26
import Derived.Test.YthdkjfhpbigdpaaDoorPTreeFix
import Derived.Test.YthdkjfhpbigdpaaDoorPTreeEv
import Derived.Test.YthdkjfhpbigdpaaDoorPTreeOne
import Derived.Deep.RegionWith
namespace Go.Proofs.YthdkjfhpbigdpaaDoor.Pure
open Go Go.RowKit Go.Lib Go.Proofs Go.Proofs.YthdkjfhpbigdpaaDoor.Q Go.Proofs.YthdkjfhpbigdpaaDoorW.PrintWords Go.Proofs.YthdkjfhpbigdpaaDoorW.PrintLast Go.Proofs.YthdkjfhpbigdpaaDoorW.PrintMore
open HTree
set_option linter.unusedVariables false
set_option linter.unusedSimpArgs false
theorem keepS20 {p0 : Addr} {p1 : Addr} {p2 : Addr} {p3 : Addr} {p4 : Addr} {p5 : Addr} {p6 : Addr} {p7 : Addr} {p8 : Addr} {p9 : Addr} {p10 : Addr} {p11 : Addr} {p12 : Addr} {p13 : Addr} {p14 : Addr} {p15 : Addr} {p16 : Addr} {p17 : Addr} {p18 : Addr} {p19 : Addr} {v0 : Value} {v1 : Value} {v2 : Value} {v3 : Value} {v4 : Value} {v5 : Value} {v6 : Value} {v7 : Value} {v8 : Value} {v9 : Value} {v10 : Value} {v11 : Value} {v12 : Value} {v13 : Value} {v14 : Value} {v15 : Value} {v16 : Value} {v17 : Value} {v18 : Value} {v19 : Value} {wq w1 w2 : World}
    (h : w1.cell? p0 = some v0 ∧ w1.cell? p1 = some v1 ∧ w1.cell? p2 = some v2 ∧ w1.cell? p3 = some v3 ∧ w1.cell? p4 = some v4 ∧ w1.cell? p5 = some v5 ∧ w1.cell? p6 = some v6 ∧ w1.cell? p7 = some v7 ∧ w1.cell? p8 = some v8 ∧ w1.cell? p9 = some v9 ∧ w1.cell? p10 = some v10 ∧ w1.cell? p11 = some v11 ∧ w1.cell? p12 = some v12 ∧ w1.cell? p13 = some v13 ∧ w1.cell? p14 = some v14 ∧ w1.cell? p15 = some v15 ∧ w1.cell? p16 = some v16 ∧ w1.cell? p17 = some v17 ∧ w1.cell? p18 = some v18 ∧ w1.cell? p19 = some v19 ∧ Below wq.heap.size wq w1) (hb : Below w1.heap.size w1 w2) :
    w2.cell? p0 = some v0 ∧ w2.cell? p1 = some v1 ∧ w2.cell? p2 = some v2 ∧ w2.cell? p3 = some v3 ∧ w2.cell? p4 = some v4 ∧ w2.cell? p5 = some v5 ∧ w2.cell? p6 = some v6 ∧ w2.cell? p7 = some v7 ∧ w2.cell? p8 = some v8 ∧ w2.cell? p9 = some v9 ∧ w2.cell? p10 = some v10 ∧ w2.cell? p11 = some v11 ∧ w2.cell? p12 = some v12 ∧ w2.cell? p13 = some v13 ∧ w2.cell? p14 = some v14 ∧ w2.cell? p15 = some v15 ∧ w2.cell? p16 = some v16 ∧ w2.cell? p17 = some v17 ∧ w2.cell? p18 = some v18 ∧ w2.cell? p19 = some v19 ∧ Below wq.heap.size wq w2 := by
  obtain ⟨h0, h1, h2, h3, h4, h5, h6, h7, h8, h9, h10, h11, h12, h13, h14, h15, h16, h17, h18, h19, h20⟩ := h
  exact ⟨(hb.cell (World.block_lt_of_cell? _ _ h0)).trans h0, (hb.cell (World.block_lt_of_cell? _ _ h1)).trans h1, (hb.cell (World.block_lt_of_cell? _ _ h2)).trans h2, (hb.cell (World.block_lt_of_cell? _ _ h3)).trans h3, (hb.cell (World.block_lt_of_cell? _ _ h4)).trans h4, (hb.cell (World.block_lt_of_cell? _ _ h5)).trans h5, (hb.cell (World.block_lt_of_cell? _ _ h6)).trans h6, (hb.cell (World.block_lt_of_cell? _ _ h7)).trans h7, (hb.cell (World.block_lt_of_cell? _ _ h8)).trans h8, (hb.cell (World.block_lt_of_cell? _ _ h9)).trans h9, (hb.cell (World.block_lt_of_cell? _ _ h10)).trans h10, (hb.cell (World.block_lt_of_cell? _ _ h11)).trans h11, (hb.cell (World.block_lt_of_cell? _ _ h12)).trans h12, (hb.cell (World.block_lt_of_cell? _ _ h13)).trans h13, (hb.cell (World.block_lt_of_cell? _ _ h14)).trans h14, (hb.cell (World.block_lt_of_cell? _ _ h15)).trans h15, (hb.cell (World.block_lt_of_cell? _ _ h16)).trans h16, (hb.cell (World.block_lt_of_cell? _ _ h17)).trans h17, (hb.cell (World.block_lt_of_cell? _ _ h18)).trans h18, (hb.cell (World.block_lt_of_cell? _ _ h19)).trans h19, below_step h20 hb⟩
set_option maxRecDepth 100000 in
set_option maxHeartbeats 32000000 in
theorem TreeSame_walk {w : World} (a : T) (Aa : Option Addr) (ca : Nat) (hCa : Kd.C k24 w Aa a.f4.length a.f4) (hla : a.f4.length ≤ ca) (oka : Ok a) (hwa : wt a ≤ 1048576) (b : T) (Ab : Option Addr) (cb : Nat) (hCb : Kd.C k24 w Ab b.f4.length b.f4) (hlb : b.f4.length ≤ cb) (okb : Ok b) (hwb : wt b ≤ 1048576)
    (htab : Lib.TabIs Tryd.prog w "strings.asciiSpace" .u8 Lib.asciiSpaceTab) :
    Calls Tryd.prog 3 #[.agg #[.int .i64 a.f0, .string a.f1, .int .i64 a.f2, .int .i64 a.f3, .slice Aa a.f4.length ca], .agg #[.int .i64 b.f0, .string b.f1, .int .i64 b.f2, .int .i64 b.f3, .slice Ab b.f4.length cb]] w fun e w' => e = .returned (.bool true) ∧ Below w.heap.size w w' := by
  have HT := Lib.hid (tabBelow_of_tabIs htab)
  clear htab
  have sza : size a ≤ 1000000000 := by have := TreeEv.size_wt a; omega
  obtain ⟨ka, ba, hsa⟩ := TreeEv.small_some a sza 500 (by omega) (by omega)
  have Sa := Lib.hid hsa
  clear hsa
  have szb : size b ≤ 1000000000 := by have := TreeEv.size_wt b; omega
  obtain ⟨kb, bb, hsb⟩ := TreeEv.small_some b szb 500 (by omega) (by omega)
  have Sb := Lib.hid hsb
  clear hsb
  have hba := below_alloc (below_alloc (Below.refl w.heap.size w) (Obj.cells #[.int .i64 a.f0, .string a.f1, .int .i64 a.f2, .int .i64 a.f3, .slice Aa a.f4.length ca] 24)) (Obj.cells #[.int .i64 b.f0, .string b.f1, .int .i64 b.f2, .int .i64 b.f3, .slice Ab b.f4.length cb] 24)
  have h1 := blk_alloc (blk_new w (Obj.cells #[.int .i64 a.f0, .string a.f1, .int .i64 a.f2, .int .i64 a.f3, .slice Aa a.f4.length ca] 24)) (Obj.cells #[.int .i64 b.f0, .string b.f1, .int .i64 b.f2, .int .i64 b.f3, .slice Ab b.f4.length cb] 24)
  have h2 := blk_new (w.alloc (Obj.cells #[.int .i64 a.f0, .string a.f1, .int .i64 a.f2, .int .i64 a.f3, .slice Aa a.f4.length ca] 24)) (Obj.cells #[.int .i64 b.f0, .string b.f1, .int .i64 b.f2, .int .i64 b.f3, .slice Ab b.f4.length cb] 24)
  rw [World.size_alloc] at h2
  go_enter Tryd.func3, Tryd.ntmps3
  go_upto_region 1 with (fail)
  generalize hwq : (w.alloc (Obj.cells #[.int .i64 a.f0, .string a.f1, .int .i64 a.f2, .int .i64 a.f3, .slice Aa a.f4.length ca] 24)).alloc (Obj.cells #[.int .i64 b.f0, .string b.f1, .int .i64 b.f2, .int .i64 b.f3, .slice Ab b.f4.length cb] 24) = wq at hba h1 h2 ⊢
  clear hwq
  have HB := Lib.hid hba; have Ba := Lib.hid h1; have Bb := Lib.hid h2
  have Ca := Lib.hid (Kd.C_below hCa hba)
  have Cb := Lib.hid (Kd.C_below hCb hba)
  clear hba h1 h2 hCa hCb
  have a0 := blk_cell Ba.out 0
  have a1 := blk_cell Ba.out 1
  have a2 := blk_cell Ba.out 2
  have a3 := blk_cell Ba.out 3
  have a4 := blk_cell Ba.out 4
  have b0 := blk_cell Bb.out 0
  have b1 := blk_cell Bb.out 1
  have b2 := blk_cell Bb.out 2
  have b3 := blk_cell Bb.out 3
  have b4 := blk_cell Bb.out 4
  simp only [List.getElem?_toArray, List.getElem?_cons_zero, List.getElem?_cons_succ] at a0 a1 a2 a3 a4 b0 b1 b2 b3 b4
  go_wp2_with fail
  refine (TreeFix.fixed_any _ (HT.out.on HB.out).here).mono ?_
  rintro e w5 ⟨rfl, hb⟩
  have n0_ := Lib.hid (below_step HB.out hb)
  have nCa := Lib.hid (Kd.C_below Ca.out hb); have nBa := Lib.hid (blk_below Ba.out hb)
  have nCb := Lib.hid (Kd.C_below Cb.out hb); have nBb := Lib.hid (blk_below Bb.out hb)
  clear HB hb Ca Ba Cb Bb a0 a1 a2 a3 a4 b0 b1 b2 b3 b4
  have HB := n0_
  have Ca := nCa; have Ba := nBa
  have Cb := nCb; have Bb := nBb
  clear n0_ nCa nBa nCb nBb
  have a0 := blk_cell Ba.out 0
  have a1 := blk_cell Ba.out 1
  have a2 := blk_cell Ba.out 2
  have a3 := blk_cell Ba.out 3
  have a4 := blk_cell Ba.out 4
  have b0 := blk_cell Bb.out 0
  have b1 := blk_cell Bb.out 1
  have b2 := blk_cell Bb.out 2
  have b3 := blk_cell Bb.out 3
  have b4 := blk_cell Bb.out 4
  simp only [List.getElem?_toArray, List.getElem?_cons_zero, List.getElem?_cons_succ] at a0 a1 a2 a3 a4 b0 b1 b2 b3 b4
  go_wp2_with fail
  refine (gossamerref02_Small.calls ka a.f0 a.f1 a.f2 a.f3 Aa ca a.f4 500 ba _ Ca.out hla Sa.out).mono ?_
  rintro e w5 ⟨rfl, hb⟩
  have n0_ := Lib.hid (below_step HB.out hb)
  have nCa := Lib.hid (Kd.C_below Ca.out hb); have nBa := Lib.hid (blk_below Ba.out hb)
  have nCb := Lib.hid (Kd.C_below Cb.out hb); have nBb := Lib.hid (blk_below Bb.out hb)
  clear HB hb Ca Ba Cb Bb a0 a1 a2 a3 a4 b0 b1 b2 b3 b4
  have HB := n0_
  have Ca := nCa; have Ba := nBa
  have Cb := nCb; have Bb := nBb
  clear n0_ nCa nBa nCb nBb
  have a0 := blk_cell Ba.out 0
  have a1 := blk_cell Ba.out 1
  have a2 := blk_cell Ba.out 2
  have a3 := blk_cell Ba.out 3
  have a4 := blk_cell Ba.out 4
  have b0 := blk_cell Bb.out 0
  have b1 := blk_cell Bb.out 1
  have b2 := blk_cell Bb.out 2
  have b3 := blk_cell Bb.out 3
  have b4 := blk_cell Bb.out 4
  simp only [List.getElem?_toArray, List.getElem?_cons_zero, List.getElem?_cons_succ] at a0 a1 a2 a3 a4 b0 b1 b2 b3 b4
  cases ba with
  | false =>
    go_wp2_with fail
    refine (TreeFix.fixed_any _ (HT.out.on HB.out).here).mono ?_
    rintro e w5 ⟨rfl, hb⟩
    have n0_ := Lib.hid (below_step HB.out hb)
    have nCa := Lib.hid (Kd.C_below Ca.out hb); have nBa := Lib.hid (blk_below Ba.out hb)
    have nCb := Lib.hid (Kd.C_below Cb.out hb); have nBb := Lib.hid (blk_below Bb.out hb)
    clear HB hb Ca Ba Cb Bb a0 a1 a2 a3 a4 b0 b1 b2 b3 b4
    have HB := n0_
    have Ca := nCa; have Ba := nBa
    have Cb := nCb; have Bb := nBb
    clear n0_ nCa nBa nCb nBb
    have a0 := blk_cell Ba.out 0
    have a1 := blk_cell Ba.out 1
    have a2 := blk_cell Ba.out 2
    have a3 := blk_cell Ba.out 3
    have a4 := blk_cell Ba.out 4
    have b0 := blk_cell Bb.out 0
    have b1 := blk_cell Bb.out 1
    have b2 := blk_cell Bb.out 2
    have b3 := blk_cell Bb.out 3
    have b4 := blk_cell Bb.out 4
    simp only [List.getElem?_toArray, List.getElem?_cons_zero, List.getElem?_cons_succ] at a0 a1 a2 a3 a4 b0 b1 b2 b3 b4
    go_wp2_with fail
    go_ret
    exact ⟨rfl, HB.out⟩
  | true =>
    go_wp2_with fail
    refine (gossamerref02_Small.calls kb b.f0 b.f1 b.f2 b.f3 Ab cb b.f4 500 bb _ Cb.out hlb Sb.out).mono ?_
    rintro e w5 ⟨rfl, hb⟩
    have n0_ := Lib.hid (below_step HB.out hb)
    have nCa := Lib.hid (Kd.C_below Ca.out hb); have nBa := Lib.hid (blk_below Ba.out hb)
    have nCb := Lib.hid (Kd.C_below Cb.out hb); have nBb := Lib.hid (blk_below Bb.out hb)
    clear HB hb Ca Ba Cb Bb a0 a1 a2 a3 a4 b0 b1 b2 b3 b4
    have HB := n0_
    have Ca := nCa; have Ba := nBa
    have Cb := nCb; have Bb := nBb
    clear n0_ nCa nBa nCb nBb
    have a0 := blk_cell Ba.out 0
    have a1 := blk_cell Ba.out 1
    have a2 := blk_cell Ba.out 2
    have a3 := blk_cell Ba.out 3
    have a4 := blk_cell Ba.out 4
    have b0 := blk_cell Bb.out 0
    have b1 := blk_cell Bb.out 1
    have b2 := blk_cell Bb.out 2
    have b3 := blk_cell Bb.out 3
    have b4 := blk_cell Bb.out 4
    simp only [List.getElem?_toArray, List.getElem?_cons_zero, List.getElem?_cons_succ] at a0 a1 a2 a3 a4 b0 b1 b2 b3 b4
    cases bb with
    | false =>
      go_wp2_with fail
      refine (TreeFix.fixed_any _ (HT.out.on HB.out).here).mono ?_
      rintro e w5 ⟨rfl, hb⟩
      have n0_ := Lib.hid (below_step HB.out hb)
      have nCa := Lib.hid (Kd.C_below Ca.out hb); have nBa := Lib.hid (blk_below Ba.out hb)
      have nCb := Lib.hid (Kd.C_below Cb.out hb); have nBb := Lib.hid (blk_below Bb.out hb)
      clear HB hb Ca Ba Cb Bb a0 a1 a2 a3 a4 b0 b1 b2 b3 b4
      have HB := n0_
      have Ca := nCa; have Ba := nBa
      have Cb := nCb; have Bb := nBb
      clear n0_ nCa nBa nCb nBb
      have a0 := blk_cell Ba.out 0
      have a1 := blk_cell Ba.out 1
      have a2 := blk_cell Ba.out 2
      have a3 := blk_cell Ba.out 3
      have a4 := blk_cell Ba.out 4
      have b0 := blk_cell Bb.out 0
      have b1 := blk_cell Bb.out 1
      have b2 := blk_cell Bb.out 2
      have b3 := blk_cell Bb.out 3
      have b4 := blk_cell Bb.out 4
      simp only [List.getElem?_toArray, List.getElem?_cons_zero, List.getElem?_cons_succ] at a0 a1 a2 a3 a4 b0 b1 b2 b3 b4
      go_wp2_with fail
      go_ret
      exact ⟨rfl, HB.out⟩
    | true =>
      obtain ⟨x, Hx⟩ : ∃ q, Hid (bare a = q) := ⟨_, Lib.hid rfl⟩
      obtain ⟨qa, hqa⟩ := (TreeOne.bare_ev _ a (Nat.le_refl _) sza).rounds
      rw [Hx.out] at hqa
      have Ka := Lib.hid hqa
      clear hqa
      obtain ⟨y, Hy⟩ : ∃ q, Hid (bare b = q) := ⟨_, Lib.hid rfl⟩
      obtain ⟨qb, hqb⟩ := (TreeOne.bare_ev _ b (Nat.le_refl _) szb).rounds
      rw [Hy.out] at hqb
      have Kb := Lib.hid hqb
      clear hqb
      go_upto_region 3 with (fail)
      rename_i K0 hK0
      suffices KEY : ∀ (g5 g6 : Nat) (A5 : Option Addr) (c5 : Nat) (A6 : Option Addr) (c6 : Nat) (wz : World), Below w5.heap.size w5 wz → wz.heap[g5]? = some (Obj.cells #[.int .i64 x.f0, .string x.f1, .int .i64 x.f2, .int .i64 x.f3, .slice A5 x.f4.length c5] 24) → wz.heap[g6]? = some (Obj.cells #[.int .i64 y.f0, .string y.f1, .int .i64 y.f2, .int .i64 y.f3, .slice A6 y.f4.length c6] 24) → Kd.C k24 wz A5 x.f4.length x.f4 → x.f4.length ≤ c5 → Kd.C k24 wz A6 y.f4.length y.f4 → y.f4.length ≤ c6 → K0 { tmps := #[.agg #[.int .i64 a.f0, .string a.f1, .int .i64 a.f2, .int .i64 a.f3, .slice Aa a.f4.length ca], .agg #[.int .i64 b.f0, .string b.f1, .int .i64 b.f2, .int .i64 b.f3, .slice Ab b.f4.length cb], .pointer (some ⟨w.heap.size, 0, none⟩), .pointer (some ⟨w.heap.size + 1, 0, none⟩), .bool false, .pointer (some ⟨g5, 0, none⟩), .pointer (some ⟨g6, 0, none⟩), undef, .bool true, .bool false, .bool false, .agg #[.int .i64 a.f0, .string a.f1, .int .i64 a.f2, .int .i64 a.f3, .slice Aa a.f4.length ca], .bool true, .bool false, .bool false, .bool false, .agg #[.int .i64 b.f0, .string b.f1, .int .i64 b.f2, .int .i64 b.f3, .slice Ab b.f4.length cb], .bool true, .bool false, .bool false, undef, .agg #[.int .i64 a.f0, .string a.f1, .int .i64 a.f2, .int .i64 a.f3, .slice Aa a.f4.length ca], .agg #[.int .i64 x.f0, .string x.f1, .int .i64 x.f2, .int .i64 x.f3, .slice A5 x.f4.length c5], .agg #[.int .i64 b.f0, .string b.f1, .int .i64 b.f2, .int .i64 b.f3, .slice Ab b.f4.length cb], .agg #[.int .i64 y.f0, .string y.f1, .int .i64 y.f2, .int .i64 y.f3, .slice A6 y.f4.length c6], undef, undef, undef, undef, undef, undef, undef, undef, undef, undef, undef, undef, undef, undef, undef, undef, undef, undef, undef, undef, undef, undef, undef, undef, undef, undef, undef, undef, undef, undef, undef, undef, undef, undef, undef, undef, undef, undef, undef, undef, undef, undef, undef, undef, undef, undef, undef, undef, undef, undef, undef], defers := [] } wz by
        refine wp_region_held_drew (S := (fun w' => w'.cell? ⟨w.heap.size, 0, none⟩ = some (.int .i64 a.f0) ∧ w'.cell? ⟨w.heap.size, 1, none⟩ = some (.string a.f1) ∧ w'.cell? ⟨w.heap.size, 2, none⟩ = some (.int .i64 a.f2) ∧ w'.cell? ⟨w.heap.size, 3, none⟩ = some (.int .i64 a.f3) ∧ w'.cell? ⟨w.heap.size, 4, none⟩ = some (.slice Aa a.f4.length ca) ∧ w'.cell? ⟨w.heap.size + 1, 0, none⟩ = some (.int .i64 b.f0) ∧ w'.cell? ⟨w.heap.size + 1, 1, none⟩ = some (.string b.f1) ∧ w'.cell? ⟨w.heap.size + 1, 2, none⟩ = some (.int .i64 b.f2) ∧ w'.cell? ⟨w.heap.size + 1, 3, none⟩ = some (.int .i64 b.f3) ∧ w'.cell? ⟨w.heap.size + 1, 4, none⟩ = some (.slice Ab b.f4.length cb) ∧ Below w5.heap.size w5 w')) (by kernel_rfl) (by (try dsimp only); exact TreeFix.keep10 ⟨a0, a1, a2, a3, a4, b0, b1, b2, b3, b4, Below.refl _ _⟩ (below_drew1 (Below.refl _ _))) (fun hHeld => ?_)
        refine wpAnyH_take (i := 0) (v := ?_) rfl (by kernel_rfl) (by kernel_rfl) (by kernel_rfl) (fun _ _ _ h => h) (Or.inl ⟨by kernel_rfl, ?_⟩) (by assumption) ?_
        rotate_left 1
        · (intro w hSw; (try dsimp only at hSw); (try simp only [List.getElem_toArray, List.getElem_cons_succ, List.getElem_cons_zero]); go_simp; (try with_reducible rfl))
        (try simp only [Act.put, List.getElem_toArray, List.getElem_cons_succ, List.getElem_cons_zero, List.setIfInBounds_toArray, List.set_cons_zero, List.set_cons_succ])
        refine wpAnyH_take (i := 2) (v := ?_) rfl (by kernel_rfl) (by kernel_rfl) (by kernel_rfl) (fun _ _ _ h => h) (Or.inl ⟨by kernel_rfl, ?_⟩) (by assumption) ?_
        rotate_left 1
        · (intro w hSw; (try dsimp only at hSw); (try simp only [List.getElem_toArray, List.getElem_cons_succ, List.getElem_cons_zero]); go_simp; (try with_reducible rfl))
        (try simp only [Act.put, List.getElem_toArray, List.getElem_cons_succ, List.getElem_cons_zero, List.setIfInBounds_toArray, List.set_cons_zero, List.set_cons_succ])
        refine wpAnyH_ready (rs := [1, 4, 5]) (by kernel_rfl) (by simp) ?_
        refine AllReadyH.cons rfl (fun K hK => ?_) (AllReadyH.cons rfl (fun K hK => ?_) (AllReadyH.cons rfl (fun K hK => ?_) (AllReadyH.nil)))
        · (try simp only [List.getElem_toArray, List.getElem_cons_succ, List.getElem_cons_zero])
          go_simp
          refine (tree_Bare.calls qa a.f0 a.f1 a.f2 a.f3 Aa ca a.f4 x.f0 x.f1 x.f2 x.f3 x.f4 _ (Kd.C_below Ca.out hHeld.2.2.2.2.2.2.2.2.2.2) hla Ka.out).mono ?_
          rintro e v1 ⟨v_, rfl, ra, hb⟩
          obtain ⟨A5, c5, rfl, hc5, _⟩ := Kd.R_reads ra
          have RA := Lib.hid (Kd.R_mono (Kd.R_bound ra) (fun k hk => (⟨hk.2.1, hk.2.2.1⟩ : w5.heap.size ≤ k ∧ k < v1.heap.size)))
          clear ra
          have Z1 := Lib.hid hb.size
          change Hid (w5.heap.size ≤ _) at Z1
          simp only []
          refine hK.out _ _ ?_ (fun hHeld => ?_)
          · (try dsimp only); exact TreeFix.keep10 hHeld hb
          clear hK K
          (try simp only [Act.put, List.getElem_toArray, List.getElem_cons_succ, List.getElem_cons_zero, List.setIfInBounds_toArray, List.set_cons_zero, List.set_cons_succ])
          refine wpAnyH_ready (rs := [3, 4, 5]) (by kernel_rfl) (by simp) ?_
          refine AllReadyH.cons rfl (fun K hK => ?_) (AllReadyH.cons rfl (fun K hK => ?_) (AllReadyH.cons rfl (fun K hK => ?_) (AllReadyH.nil)))
          · (try simp only [List.getElem_toArray, List.getElem_cons_succ, List.getElem_cons_zero])
            go_simp
            refine (tree_Bare.calls qb b.f0 b.f1 b.f2 b.f3 Ab cb b.f4 y.f0 y.f1 y.f2 y.f3 y.f4 _ (Kd.C_below Cb.out hHeld.2.2.2.2.2.2.2.2.2.2) hlb Kb.out).mono ?_
            rintro e v2 ⟨v_, rfl, ra, hb⟩
            obtain ⟨A6, c6, rfl, hc6, _⟩ := Kd.R_reads ra
            have RB := Lib.hid (Kd.R_mono (Kd.R_bound ra) (fun k hk => (⟨hk.2.1, hk.2.2.1⟩ : v1.heap.size ≤ k ∧ k < v2.heap.size)))
            clear ra
            have n_ := Lib.hid (Kd.R_below RA.out hb)
            clear RA
            have RA := n_
            clear n_
            have Z2 := Lib.hid hb.size
            simp only []
            refine hK.out _ _ ?_ (fun hHeld => ?_)
            · (try dsimp only); exact TreeFix.keep10 hHeld hb
            clear hK K
            (try simp only [Act.put, List.getElem_toArray, List.getElem_cons_succ, List.getElem_cons_zero, List.setIfInBounds_toArray, List.set_cons_zero, List.set_cons_succ])
            refine wpAnyH_ready (rs := [4, 5]) (by kernel_rfl) (by simp) ?_
            refine AllReadyH.cons rfl (fun K hK => ?_) (AllReadyH.cons rfl (fun K hK => ?_) (AllReadyH.nil))
            · (try simp only [List.getElem_toArray, List.getElem_cons_succ, List.getElem_cons_zero])
              go_simp
              have hb : Below v2.heap.size v2 (v2.alloc (Obj.cells #[.int .i64 0, .string ⟨#[]⟩, .int .i64 0, .int .i64 0, .slice none 0 0] 24)) := below_alloc (Below.refl _ _) _
              have vb : (v2.alloc (Obj.cells #[.int .i64 0, .string ⟨#[]⟩, .int .i64 0, .int .i64 0, .slice none 0 0] 24)).heap[v2.heap.size]? = some (Obj.cells #[.int .i64 0, .string ⟨#[]⟩, .int .i64 0, .int .i64 0, .slice none 0 0] 24) := blk_new _ _
              generalize (v2.alloc (Obj.cells #[.int .i64 0, .string ⟨#[]⟩, .int .i64 0, .int .i64 0, .slice none 0 0] 24)) = v3 at hb vb ⊢
              have n_ := Lib.hid (Kd.R_below RA.out hb)
              clear RA
              have RA := n_
              clear n_
              have n_ := Lib.hid (Kd.R_below RB.out hb)
              clear RB
              have RB := n_
              clear n_
              have V5 := Lib.hid vb
              have Z3 := Lib.hid hb.size
              have L5 := Lib.hid (blk_lt vb)
              clear vb
              refine hK.out _ _ ?_ (fun hHeld => ?_)
              · (try dsimp only); exact TreeFix.keep10 hHeld hb
              clear hK K
              (try simp only [Act.put, List.getElem_toArray, List.getElem_cons_succ, List.getElem_cons_zero, List.setIfInBounds_toArray, List.set_cons_zero, List.set_cons_succ])
              refine wpAnyH_ready (rs := [5]) (by kernel_rfl) (by simp) ?_
              refine AllReadyH.cons rfl (fun K hK => ?_) (AllReadyH.nil)
              (try simp only [List.getElem_toArray, List.getElem_cons_succ, List.getElem_cons_zero])
              go_simp
              have hb : Below v3.heap.size v3 (v3.alloc (Obj.cells #[.int .i64 0, .string ⟨#[]⟩, .int .i64 0, .int .i64 0, .slice none 0 0] 24)) := below_alloc (Below.refl _ _) _
              have vb : (v3.alloc (Obj.cells #[.int .i64 0, .string ⟨#[]⟩, .int .i64 0, .int .i64 0, .slice none 0 0] 24)).heap[v3.heap.size]? = some (Obj.cells #[.int .i64 0, .string ⟨#[]⟩, .int .i64 0, .int .i64 0, .slice none 0 0] 24) := blk_new _ _
              generalize (v3.alloc (Obj.cells #[.int .i64 0, .string ⟨#[]⟩, .int .i64 0, .int .i64 0, .slice none 0 0] 24)) = v4 at hb vb ⊢
              have n_ := Lib.hid (Kd.R_below RA.out hb)
              clear RA
              have RA := n_
              clear n_
              have n_ := Lib.hid (blk_below V5.out hb)
              clear V5
              have V5 := n_
              clear n_
              have n_ := Lib.hid (Kd.R_below RB.out hb)
              clear RB
              have RB := n_
              clear n_
              have V6 := Lib.hid vb
              have Z4 := Lib.hid hb.size
              have L6 := Lib.hid (blk_lt vb)
              clear vb
              refine hK.out _ _ ?_ (fun hHeld => ?_)
              · (try dsimp only); exact TreeFix.keep10 hHeld hb
              clear hK K
              (try simp only [Act.put, List.getElem_toArray, List.getElem_cons_succ, List.getElem_cons_zero, List.setIfInBounds_toArray, List.set_cons_zero, List.set_cons_succ])
              have hge5 : w5.heap.size ≤ v2.heap.size := by have := Z1.out; have := Z2.out; have := Z3.out; have := L5.out; have := Z4.out; have := L6.out; omega
              have hge6 : w5.heap.size ≤ v3.heap.size := by have := Z1.out; have := Z2.out; have := Z3.out; have := L5.out; have := Z4.out; have := L6.out; omega
              have hne : v3.heap.size ≠ v2.heap.size := by have := Z1.out; have := Z2.out; have := Z3.out; have := L5.out; have := Z4.out; have := L6.out; omega
              have vb := V5.out
              have u0 := blk_cell vb 0
              have u1 := blk_cell vb 1
              have u2 := blk_cell vb 2
              have u3 := blk_cell vb 3
              have u4 := blk_cell vb 4
              simp only [List.getElem?_toArray, List.getElem?_cons_zero, List.getElem?_cons_succ] at u0 u1 u2 u3 u4
              have z0 := blk_frozen vb 0
              have z1 := blk_frozen vb 1
              have z2 := blk_frozen vb 2
              have z3 := blk_frozen vb 3
              have z4 := blk_frozen vb 4
              refine wpAnyH_ready (rs := [6]) (by kernel_rfl) (by simp) ?_
              refine AllReadyH.cons rfl (fun K hK => ?_) (AllReadyH.nil)
              (try simp only [List.getElem_toArray, List.getElem_cons_succ, List.getElem_cons_zero])
              go_simp
              have vb2 : (((((v4.setCell ⟨v2.heap.size, 0, none⟩ (.int .i64 x.f0)).setCell ⟨v2.heap.size, 1, none⟩ (.string x.f1)).setCell ⟨v2.heap.size, 2, none⟩ (.int .i64 x.f2)).setCell ⟨v2.heap.size, 3, none⟩ (.int .i64 x.f3)).setCell ⟨v2.heap.size, 4, none⟩ (.slice A5 x.f4.length c5)).heap[v2.heap.size]? = some (Obj.cells #[.int .i64 x.f0, .string x.f1, .int .i64 x.f2, .int .i64 x.f3, .slice A5 x.f4.length c5] 24) := (blk_put (blk_put (blk_put (blk_put (blk_put vb 0 (.int .i64 x.f0) rfl) 1 (.string x.f1) rfl) 2 (.int .i64 x.f2) rfl) 3 (.int .i64 x.f3) rfl) 4 (.slice A5 x.f4.length c5) rfl)
              have vo : (((((v4.setCell ⟨v2.heap.size, 0, none⟩ (.int .i64 x.f0)).setCell ⟨v2.heap.size, 1, none⟩ (.string x.f1)).setCell ⟨v2.heap.size, 2, none⟩ (.int .i64 x.f2)).setCell ⟨v2.heap.size, 3, none⟩ (.int .i64 x.f3)).setCell ⟨v2.heap.size, 4, none⟩ (.slice A5 x.f4.length c5)).heap[v3.heap.size]? = some (Obj.cells #[.int .i64 0, .string ⟨#[]⟩, .int .i64 0, .int .i64 0, .slice none 0 0] 24) := (blk_far (blk_far (blk_far (blk_far (blk_far V6.out (show v3.heap.size ≠ v2.heap.size from hne) _) (show v3.heap.size ≠ v2.heap.size from hne) _) (show v3.heap.size ≠ v2.heap.size from hne) _) (show v3.heap.size ≠ v2.heap.size from hne) _) (show v3.heap.size ≠ v2.heap.size from hne) _)
              have hbs : Below w5.heap.size w5 (((((v4.setCell ⟨v2.heap.size, 0, none⟩ (.int .i64 x.f0)).setCell ⟨v2.heap.size, 1, none⟩ (.string x.f1)).setCell ⟨v2.heap.size, 2, none⟩ (.int .i64 x.f2)).setCell ⟨v2.heap.size, 3, none⟩ (.int .i64 x.f3)).setCell ⟨v2.heap.size, 4, none⟩ (.slice A5 x.f4.length c5)) := (below_set (below_set (below_set (below_set (below_set hHeld.2.2.2.2.2.2.2.2.2.2 hge5) hge5) hge5) hge5) hge5)
              have ra2 : Kd.R k24 24 (((((v4.setCell ⟨v2.heap.size, 0, none⟩ (.int .i64 x.f0)).setCell ⟨v2.heap.size, 1, none⟩ (.string x.f1)).setCell ⟨v2.heap.size, 2, none⟩ (.int .i64 x.f2)).setCell ⟨v2.heap.size, 3, none⟩ (.int .i64 x.f3)).setCell ⟨v2.heap.size, 4, none⟩ (.slice A5 x.f4.length c5)) _ _ _ _ := (Kd.R_far (Kd.R_far (Kd.R_far (Kd.R_far (Kd.R_far RA.out (show ∀ k, _ → k ≠ v2.heap.size from fun k hk => by have := Z1.out; have := Z2.out; have := Z3.out; have := L5.out; have := Z4.out; have := L6.out; omega) _) (show ∀ k, _ → k ≠ v2.heap.size from fun k hk => by have := Z1.out; have := Z2.out; have := Z3.out; have := L5.out; have := Z4.out; have := L6.out; omega) _) (show ∀ k, _ → k ≠ v2.heap.size from fun k hk => by have := Z1.out; have := Z2.out; have := Z3.out; have := L5.out; have := Z4.out; have := L6.out; omega) _) (show ∀ k, _ → k ≠ v2.heap.size from fun k hk => by have := Z1.out; have := Z2.out; have := Z3.out; have := L5.out; have := Z4.out; have := L6.out; omega) _) (show ∀ k, _ → k ≠ v2.heap.size from fun k hk => by have := Z1.out; have := Z2.out; have := Z3.out; have := L5.out; have := Z4.out; have := L6.out; omega) _)
              have rb2 : Kd.R k24 24 (((((v4.setCell ⟨v2.heap.size, 0, none⟩ (.int .i64 x.f0)).setCell ⟨v2.heap.size, 1, none⟩ (.string x.f1)).setCell ⟨v2.heap.size, 2, none⟩ (.int .i64 x.f2)).setCell ⟨v2.heap.size, 3, none⟩ (.int .i64 x.f3)).setCell ⟨v2.heap.size, 4, none⟩ (.slice A5 x.f4.length c5)) _ _ _ _ := (Kd.R_far (Kd.R_far (Kd.R_far (Kd.R_far (Kd.R_far RB.out (show ∀ k, _ → k ≠ v2.heap.size from fun k hk => by have := Z1.out; have := Z2.out; have := Z3.out; have := L5.out; have := Z4.out; have := L6.out; omega) _) (show ∀ k, _ → k ≠ v2.heap.size from fun k hk => by have := Z1.out; have := Z2.out; have := Z3.out; have := L5.out; have := Z4.out; have := L6.out; omega) _) (show ∀ k, _ → k ≠ v2.heap.size from fun k hk => by have := Z1.out; have := Z2.out; have := Z3.out; have := L5.out; have := Z4.out; have := L6.out; omega) _) (show ∀ k, _ → k ≠ v2.heap.size from fun k hk => by have := Z1.out; have := Z2.out; have := Z3.out; have := L5.out; have := Z4.out; have := L6.out; omega) _) (show ∀ k, _ → k ≠ v2.heap.size from fun k hk => by have := Z1.out; have := Z2.out; have := Z3.out; have := L5.out; have := Z4.out; have := L6.out; omega) _)
              generalize (((((v4.setCell ⟨v2.heap.size, 0, none⟩ (.int .i64 x.f0)).setCell ⟨v2.heap.size, 1, none⟩ (.string x.f1)).setCell ⟨v2.heap.size, 2, none⟩ (.int .i64 x.f2)).setCell ⟨v2.heap.size, 3, none⟩ (.int .i64 x.f3)).setCell ⟨v2.heap.size, 4, none⟩ (.slice A5 x.f4.length c5)) = v5 at vb2 vo hbs ra2 rb2 ⊢
              clear V5 V6 RA RB
              have V5 := Lib.hid vb2; have V6 := Lib.hid vo; have RA := Lib.hid ra2; have RB := Lib.hid rb2
              clear vb vb2 vo ra2 rb2 u0 u1 u2 u3 u4 z0 z1 z2 z3 z4
              refine hK.out _ _ ?_ (fun hHeld => ?_)
              · (try dsimp only); exact TreeFix.keep10 ⟨a0, a1, a2, a3, a4, b0, b1, b2, b3, b4, Below.refl _ _⟩ hbs
              clear hK K
              (try simp only [Act.put, List.getElem_toArray, List.getElem_cons_succ, List.getElem_cons_zero, List.setIfInBounds_toArray, List.set_cons_zero, List.set_cons_succ])
              clear hbs
              have vb := V6.out
              have u0 := blk_cell vb 0
              have u1 := blk_cell vb 1
              have u2 := blk_cell vb 2
              have u3 := blk_cell vb 3
              have u4 := blk_cell vb 4
              simp only [List.getElem?_toArray, List.getElem?_cons_zero, List.getElem?_cons_succ] at u0 u1 u2 u3 u4
              have z0 := blk_frozen vb 0
              have z1 := blk_frozen vb 1
              have z2 := blk_frozen vb 2
              have z3 := blk_frozen vb 3
              have z4 := blk_frozen vb 4
              refine wpAnyH_ready (rs := [7]) (by kernel_rfl) (by simp) ?_
              refine AllReadyH.cons rfl (fun K hK => ?_) (AllReadyH.nil)
              (try simp only [List.getElem_toArray, List.getElem_cons_succ, List.getElem_cons_zero])
              go_simp
              have vb2 : (((((v5.setCell ⟨v3.heap.size, 0, none⟩ (.int .i64 y.f0)).setCell ⟨v3.heap.size, 1, none⟩ (.string y.f1)).setCell ⟨v3.heap.size, 2, none⟩ (.int .i64 y.f2)).setCell ⟨v3.heap.size, 3, none⟩ (.int .i64 y.f3)).setCell ⟨v3.heap.size, 4, none⟩ (.slice A6 y.f4.length c6)).heap[v3.heap.size]? = some (Obj.cells #[.int .i64 y.f0, .string y.f1, .int .i64 y.f2, .int .i64 y.f3, .slice A6 y.f4.length c6] 24) := (blk_put (blk_put (blk_put (blk_put (blk_put vb 0 (.int .i64 y.f0) rfl) 1 (.string y.f1) rfl) 2 (.int .i64 y.f2) rfl) 3 (.int .i64 y.f3) rfl) 4 (.slice A6 y.f4.length c6) rfl)
              have vo : (((((v5.setCell ⟨v3.heap.size, 0, none⟩ (.int .i64 y.f0)).setCell ⟨v3.heap.size, 1, none⟩ (.string y.f1)).setCell ⟨v3.heap.size, 2, none⟩ (.int .i64 y.f2)).setCell ⟨v3.heap.size, 3, none⟩ (.int .i64 y.f3)).setCell ⟨v3.heap.size, 4, none⟩ (.slice A6 y.f4.length c6)).heap[v2.heap.size]? = some (Obj.cells #[.int .i64 x.f0, .string x.f1, .int .i64 x.f2, .int .i64 x.f3, .slice A5 x.f4.length c5] 24) := (blk_far (blk_far (blk_far (blk_far (blk_far V5.out (show v2.heap.size ≠ v3.heap.size from (Ne.symm hne)) _) (show v2.heap.size ≠ v3.heap.size from (Ne.symm hne)) _) (show v2.heap.size ≠ v3.heap.size from (Ne.symm hne)) _) (show v2.heap.size ≠ v3.heap.size from (Ne.symm hne)) _) (show v2.heap.size ≠ v3.heap.size from (Ne.symm hne)) _)
              have hbs : Below w5.heap.size w5 (((((v5.setCell ⟨v3.heap.size, 0, none⟩ (.int .i64 y.f0)).setCell ⟨v3.heap.size, 1, none⟩ (.string y.f1)).setCell ⟨v3.heap.size, 2, none⟩ (.int .i64 y.f2)).setCell ⟨v3.heap.size, 3, none⟩ (.int .i64 y.f3)).setCell ⟨v3.heap.size, 4, none⟩ (.slice A6 y.f4.length c6)) := (below_set (below_set (below_set (below_set (below_set hHeld.2.2.2.2.2.2.2.2.2.2 hge6) hge6) hge6) hge6) hge6)
              have ra2 : Kd.R k24 24 (((((v5.setCell ⟨v3.heap.size, 0, none⟩ (.int .i64 y.f0)).setCell ⟨v3.heap.size, 1, none⟩ (.string y.f1)).setCell ⟨v3.heap.size, 2, none⟩ (.int .i64 y.f2)).setCell ⟨v3.heap.size, 3, none⟩ (.int .i64 y.f3)).setCell ⟨v3.heap.size, 4, none⟩ (.slice A6 y.f4.length c6)) _ _ _ _ := (Kd.R_far (Kd.R_far (Kd.R_far (Kd.R_far (Kd.R_far RA.out (show ∀ k, _ → k ≠ v3.heap.size from fun k hk => by have := Z1.out; have := Z2.out; have := Z3.out; have := L5.out; have := Z4.out; have := L6.out; omega) _) (show ∀ k, _ → k ≠ v3.heap.size from fun k hk => by have := Z1.out; have := Z2.out; have := Z3.out; have := L5.out; have := Z4.out; have := L6.out; omega) _) (show ∀ k, _ → k ≠ v3.heap.size from fun k hk => by have := Z1.out; have := Z2.out; have := Z3.out; have := L5.out; have := Z4.out; have := L6.out; omega) _) (show ∀ k, _ → k ≠ v3.heap.size from fun k hk => by have := Z1.out; have := Z2.out; have := Z3.out; have := L5.out; have := Z4.out; have := L6.out; omega) _) (show ∀ k, _ → k ≠ v3.heap.size from fun k hk => by have := Z1.out; have := Z2.out; have := Z3.out; have := L5.out; have := Z4.out; have := L6.out; omega) _)
              have rb2 : Kd.R k24 24 (((((v5.setCell ⟨v3.heap.size, 0, none⟩ (.int .i64 y.f0)).setCell ⟨v3.heap.size, 1, none⟩ (.string y.f1)).setCell ⟨v3.heap.size, 2, none⟩ (.int .i64 y.f2)).setCell ⟨v3.heap.size, 3, none⟩ (.int .i64 y.f3)).setCell ⟨v3.heap.size, 4, none⟩ (.slice A6 y.f4.length c6)) _ _ _ _ := (Kd.R_far (Kd.R_far (Kd.R_far (Kd.R_far (Kd.R_far RB.out (show ∀ k, _ → k ≠ v3.heap.size from fun k hk => by have := Z1.out; have := Z2.out; have := Z3.out; have := L5.out; have := Z4.out; have := L6.out; omega) _) (show ∀ k, _ → k ≠ v3.heap.size from fun k hk => by have := Z1.out; have := Z2.out; have := Z3.out; have := L5.out; have := Z4.out; have := L6.out; omega) _) (show ∀ k, _ → k ≠ v3.heap.size from fun k hk => by have := Z1.out; have := Z2.out; have := Z3.out; have := L5.out; have := Z4.out; have := L6.out; omega) _) (show ∀ k, _ → k ≠ v3.heap.size from fun k hk => by have := Z1.out; have := Z2.out; have := Z3.out; have := L5.out; have := Z4.out; have := L6.out; omega) _) (show ∀ k, _ → k ≠ v3.heap.size from fun k hk => by have := Z1.out; have := Z2.out; have := Z3.out; have := L5.out; have := Z4.out; have := L6.out; omega) _)
              generalize (((((v5.setCell ⟨v3.heap.size, 0, none⟩ (.int .i64 y.f0)).setCell ⟨v3.heap.size, 1, none⟩ (.string y.f1)).setCell ⟨v3.heap.size, 2, none⟩ (.int .i64 y.f2)).setCell ⟨v3.heap.size, 3, none⟩ (.int .i64 y.f3)).setCell ⟨v3.heap.size, 4, none⟩ (.slice A6 y.f4.length c6)) = v6 at vb2 vo hbs ra2 rb2 ⊢
              clear V5 V6 RA RB
              have V6 := Lib.hid vb2; have V5 := Lib.hid vo; have RA := Lib.hid ra2; have RB := Lib.hid rb2
              clear vb vb2 vo ra2 rb2 u0 u1 u2 u3 u4 z0 z1 z2 z3 z4
              refine hK.out _ _ ?_ (fun hHeld => ?_)
              · (try dsimp only); exact TreeFix.keep10 ⟨a0, a1, a2, a3, a4, b0, b1, b2, b3, b4, Below.refl _ _⟩ hbs
              clear hK K
              (try simp only [Act.put, List.getElem_toArray, List.getElem_cons_succ, List.getElem_cons_zero, List.setIfInBounds_toArray, List.set_cons_zero, List.set_cons_succ])
              refine wpAnyH_done (by kernel_rfl) ?_ _
              exact KEY v2.heap.size v3.heap.size A5 c5 A6 c6 v6 hbs V5.out V6.out (Kd.R_reads' RA.out).2.2 hc5 (Kd.R_reads' RB.out).2.2 hc6
            · (try simp only [List.getElem_toArray, List.getElem_cons_succ, List.getElem_cons_zero])
              go_simp
              have hb : Below v2.heap.size v2 (v2.alloc (Obj.cells #[.int .i64 0, .string ⟨#[]⟩, .int .i64 0, .int .i64 0, .slice none 0 0] 24)) := below_alloc (Below.refl _ _) _
              have vb : (v2.alloc (Obj.cells #[.int .i64 0, .string ⟨#[]⟩, .int .i64 0, .int .i64 0, .slice none 0 0] 24)).heap[v2.heap.size]? = some (Obj.cells #[.int .i64 0, .string ⟨#[]⟩, .int .i64 0, .int .i64 0, .slice none 0 0] 24) := blk_new _ _
              generalize (v2.alloc (Obj.cells #[.int .i64 0, .string ⟨#[]⟩, .int .i64 0, .int .i64 0, .slice none 0 0] 24)) = v3 at hb vb ⊢
              have n_ := Lib.hid (Kd.R_below RA.out hb)
              clear RA
              have RA := n_
              clear n_
              have n_ := Lib.hid (Kd.R_below RB.out hb)
              clear RB
              have RB := n_
              clear n_
              have V6 := Lib.hid vb
              have Z3 := Lib.hid hb.size
              have L6 := Lib.hid (blk_lt vb)
              clear vb
              refine hK.out _ _ ?_ (fun hHeld => ?_)
              · (try dsimp only); exact TreeFix.keep10 hHeld hb
              clear hK K
              (try simp only [Act.put, List.getElem_toArray, List.getElem_cons_succ, List.getElem_cons_zero, List.setIfInBounds_toArray, List.set_cons_zero, List.set_cons_succ])
              refine wpAnyH_ready (rs := [4]) (by kernel_rfl) (by simp) ?_
              refine AllReadyH.cons rfl (fun K hK => ?_) (AllReadyH.nil)
              (try simp only [List.getElem_toArray, List.getElem_cons_succ, List.getElem_cons_zero])
              go_simp
              have hb : Below v3.heap.size v3 (v3.alloc (Obj.cells #[.int .i64 0, .string ⟨#[]⟩, .int .i64 0, .int .i64 0, .slice none 0 0] 24)) := below_alloc (Below.refl _ _) _
              have vb : (v3.alloc (Obj.cells #[.int .i64 0, .string ⟨#[]⟩, .int .i64 0, .int .i64 0, .slice none 0 0] 24)).heap[v3.heap.size]? = some (Obj.cells #[.int .i64 0, .string ⟨#[]⟩, .int .i64 0, .int .i64 0, .slice none 0 0] 24) := blk_new _ _
              generalize (v3.alloc (Obj.cells #[.int .i64 0, .string ⟨#[]⟩, .int .i64 0, .int .i64 0, .slice none 0 0] 24)) = v4 at hb vb ⊢
              have n_ := Lib.hid (Kd.R_below RA.out hb)
              clear RA
              have RA := n_
              clear n_
              have n_ := Lib.hid (blk_below V6.out hb)
              clear V6
              have V6 := n_
              clear n_
              have n_ := Lib.hid (Kd.R_below RB.out hb)
              clear RB
              have RB := n_
              clear n_
              have V5 := Lib.hid vb
              have Z4 := Lib.hid hb.size
              have L5 := Lib.hid (blk_lt vb)
              clear vb
              refine hK.out _ _ ?_ (fun hHeld => ?_)
              · (try dsimp only); exact TreeFix.keep10 hHeld hb
              clear hK K
              (try simp only [Act.put, List.getElem_toArray, List.getElem_cons_succ, List.getElem_cons_zero, List.setIfInBounds_toArray, List.set_cons_zero, List.set_cons_succ])
              have hge5 : w5.heap.size ≤ v3.heap.size := by have := Z1.out; have := Z2.out; have := Z3.out; have := L6.out; have := Z4.out; have := L5.out; omega
              have hge6 : w5.heap.size ≤ v2.heap.size := by have := Z1.out; have := Z2.out; have := Z3.out; have := L6.out; have := Z4.out; have := L5.out; omega
              have hne : v2.heap.size ≠ v3.heap.size := by have := Z1.out; have := Z2.out; have := Z3.out; have := L6.out; have := Z4.out; have := L5.out; omega
              have vb := V5.out
              have u0 := blk_cell vb 0
              have u1 := blk_cell vb 1
              have u2 := blk_cell vb 2
              have u3 := blk_cell vb 3
              have u4 := blk_cell vb 4
              simp only [List.getElem?_toArray, List.getElem?_cons_zero, List.getElem?_cons_succ] at u0 u1 u2 u3 u4
              have z0 := blk_frozen vb 0
              have z1 := blk_frozen vb 1
              have z2 := blk_frozen vb 2
              have z3 := blk_frozen vb 3
              have z4 := blk_frozen vb 4
              refine wpAnyH_ready (rs := [6]) (by kernel_rfl) (by simp) ?_
              refine AllReadyH.cons rfl (fun K hK => ?_) (AllReadyH.nil)
              (try simp only [List.getElem_toArray, List.getElem_cons_succ, List.getElem_cons_zero])
              go_simp
              have vb2 : (((((v4.setCell ⟨v3.heap.size, 0, none⟩ (.int .i64 x.f0)).setCell ⟨v3.heap.size, 1, none⟩ (.string x.f1)).setCell ⟨v3.heap.size, 2, none⟩ (.int .i64 x.f2)).setCell ⟨v3.heap.size, 3, none⟩ (.int .i64 x.f3)).setCell ⟨v3.heap.size, 4, none⟩ (.slice A5 x.f4.length c5)).heap[v3.heap.size]? = some (Obj.cells #[.int .i64 x.f0, .string x.f1, .int .i64 x.f2, .int .i64 x.f3, .slice A5 x.f4.length c5] 24) := (blk_put (blk_put (blk_put (blk_put (blk_put vb 0 (.int .i64 x.f0) rfl) 1 (.string x.f1) rfl) 2 (.int .i64 x.f2) rfl) 3 (.int .i64 x.f3) rfl) 4 (.slice A5 x.f4.length c5) rfl)
              have vo : (((((v4.setCell ⟨v3.heap.size, 0, none⟩ (.int .i64 x.f0)).setCell ⟨v3.heap.size, 1, none⟩ (.string x.f1)).setCell ⟨v3.heap.size, 2, none⟩ (.int .i64 x.f2)).setCell ⟨v3.heap.size, 3, none⟩ (.int .i64 x.f3)).setCell ⟨v3.heap.size, 4, none⟩ (.slice A5 x.f4.length c5)).heap[v2.heap.size]? = some (Obj.cells #[.int .i64 0, .string ⟨#[]⟩, .int .i64 0, .int .i64 0, .slice none 0 0] 24) := (blk_far (blk_far (blk_far (blk_far (blk_far V6.out (show v2.heap.size ≠ v3.heap.size from hne) _) (show v2.heap.size ≠ v3.heap.size from hne) _) (show v2.heap.size ≠ v3.heap.size from hne) _) (show v2.heap.size ≠ v3.heap.size from hne) _) (show v2.heap.size ≠ v3.heap.size from hne) _)
              have hbs : Below w5.heap.size w5 (((((v4.setCell ⟨v3.heap.size, 0, none⟩ (.int .i64 x.f0)).setCell ⟨v3.heap.size, 1, none⟩ (.string x.f1)).setCell ⟨v3.heap.size, 2, none⟩ (.int .i64 x.f2)).setCell ⟨v3.heap.size, 3, none⟩ (.int .i64 x.f3)).setCell ⟨v3.heap.size, 4, none⟩ (.slice A5 x.f4.length c5)) := (below_set (below_set (below_set (below_set (below_set hHeld.2.2.2.2.2.2.2.2.2.2 hge5) hge5) hge5) hge5) hge5)
              have ra2 : Kd.R k24 24 (((((v4.setCell ⟨v3.heap.size, 0, none⟩ (.int .i64 x.f0)).setCell ⟨v3.heap.size, 1, none⟩ (.string x.f1)).setCell ⟨v3.heap.size, 2, none⟩ (.int .i64 x.f2)).setCell ⟨v3.heap.size, 3, none⟩ (.int .i64 x.f3)).setCell ⟨v3.heap.size, 4, none⟩ (.slice A5 x.f4.length c5)) _ _ _ _ := (Kd.R_far (Kd.R_far (Kd.R_far (Kd.R_far (Kd.R_far RA.out (show ∀ k, _ → k ≠ v3.heap.size from fun k hk => by have := Z1.out; have := Z2.out; have := Z3.out; have := L6.out; have := Z4.out; have := L5.out; omega) _) (show ∀ k, _ → k ≠ v3.heap.size from fun k hk => by have := Z1.out; have := Z2.out; have := Z3.out; have := L6.out; have := Z4.out; have := L5.out; omega) _) (show ∀ k, _ → k ≠ v3.heap.size from fun k hk => by have := Z1.out; have := Z2.out; have := Z3.out; have := L6.out; have := Z4.out; have := L5.out; omega) _) (show ∀ k, _ → k ≠ v3.heap.size from fun k hk => by have := Z1.out; have := Z2.out; have := Z3.out; have := L6.out; have := Z4.out; have := L5.out; omega) _) (show ∀ k, _ → k ≠ v3.heap.size from fun k hk => by have := Z1.out; have := Z2.out; have := Z3.out; have := L6.out; have := Z4.out; have := L5.out; omega) _)
              have rb2 : Kd.R k24 24 (((((v4.setCell ⟨v3.heap.size, 0, none⟩ (.int .i64 x.f0)).setCell ⟨v3.heap.size, 1, none⟩ (.string x.f1)).setCell ⟨v3.heap.size, 2, none⟩ (.int .i64 x.f2)).setCell ⟨v3.heap.size, 3, none⟩ (.int .i64 x.f3)).setCell ⟨v3.heap.size, 4, none⟩ (.slice A5 x.f4.length c5)) _ _ _ _ := (Kd.R_far (Kd.R_far (Kd.R_far (Kd.R_far (Kd.R_far RB.out (show ∀ k, _ → k ≠ v3.heap.size from fun k hk => by have := Z1.out; have := Z2.out; have := Z3.out; have := L6.out; have := Z4.out; have := L5.out; omega) _) (show ∀ k, _ → k ≠ v3.heap.size from fun k hk => by have := Z1.out; have := Z2.out; have := Z3.out; have := L6.out; have := Z4.out; have := L5.out; omega) _) (show ∀ k, _ → k ≠ v3.heap.size from fun k hk => by have := Z1.out; have := Z2.out; have := Z3.out; have := L6.out; have := Z4.out; have := L5.out; omega) _) (show ∀ k, _ → k ≠ v3.heap.size from fun k hk => by have := Z1.out; have := Z2.out; have := Z3.out; have := L6.out; have := Z4.out; have := L5.out; omega) _) (show ∀ k, _ → k ≠ v3.heap.size from fun k hk => by have := Z1.out; have := Z2.out; have := Z3.out; have := L6.out; have := Z4.out; have := L5.out; omega) _)
              generalize (((((v4.setCell ⟨v3.heap.size, 0, none⟩ (.int .i64 x.f0)).setCell ⟨v3.heap.size, 1, none⟩ (.string x.f1)).setCell ⟨v3.heap.size, 2, none⟩ (.int .i64 x.f2)).setCell ⟨v3.heap.size, 3, none⟩ (.int .i64 x.f3)).setCell ⟨v3.heap.size, 4, none⟩ (.slice A5 x.f4.length c5)) = v5 at vb2 vo hbs ra2 rb2 ⊢
              clear V5 V6 RA RB
              have V5 := Lib.hid vb2; have V6 := Lib.hid vo; have RA := Lib.hid ra2; have RB := Lib.hid rb2
              clear vb vb2 vo ra2 rb2 u0 u1 u2 u3 u4 z0 z1 z2 z3 z4
              refine hK.out _ _ ?_ (fun hHeld => ?_)
              · (try dsimp only); exact TreeFix.keep10 ⟨a0, a1, a2, a3, a4, b0, b1, b2, b3, b4, Below.refl _ _⟩ hbs
              clear hK K
              (try simp only [Act.put, List.getElem_toArray, List.getElem_cons_succ, List.getElem_cons_zero, List.setIfInBounds_toArray, List.set_cons_zero, List.set_cons_succ])
              clear hbs
              have vb := V6.out
              have u0 := blk_cell vb 0
              have u1 := blk_cell vb 1
              have u2 := blk_cell vb 2
              have u3 := blk_cell vb 3
              have u4 := blk_cell vb 4
              simp only [List.getElem?_toArray, List.getElem?_cons_zero, List.getElem?_cons_succ] at u0 u1 u2 u3 u4
              have z0 := blk_frozen vb 0
              have z1 := blk_frozen vb 1
              have z2 := blk_frozen vb 2
              have z3 := blk_frozen vb 3
              have z4 := blk_frozen vb 4
              refine wpAnyH_ready (rs := [7]) (by kernel_rfl) (by simp) ?_
              refine AllReadyH.cons rfl (fun K hK => ?_) (AllReadyH.nil)
              (try simp only [List.getElem_toArray, List.getElem_cons_succ, List.getElem_cons_zero])
              go_simp
              have vb2 : (((((v5.setCell ⟨v2.heap.size, 0, none⟩ (.int .i64 y.f0)).setCell ⟨v2.heap.size, 1, none⟩ (.string y.f1)).setCell ⟨v2.heap.size, 2, none⟩ (.int .i64 y.f2)).setCell ⟨v2.heap.size, 3, none⟩ (.int .i64 y.f3)).setCell ⟨v2.heap.size, 4, none⟩ (.slice A6 y.f4.length c6)).heap[v2.heap.size]? = some (Obj.cells #[.int .i64 y.f0, .string y.f1, .int .i64 y.f2, .int .i64 y.f3, .slice A6 y.f4.length c6] 24) := (blk_put (blk_put (blk_put (blk_put (blk_put vb 0 (.int .i64 y.f0) rfl) 1 (.string y.f1) rfl) 2 (.int .i64 y.f2) rfl) 3 (.int .i64 y.f3) rfl) 4 (.slice A6 y.f4.length c6) rfl)
              have vo : (((((v5.setCell ⟨v2.heap.size, 0, none⟩ (.int .i64 y.f0)).setCell ⟨v2.heap.size, 1, none⟩ (.string y.f1)).setCell ⟨v2.heap.size, 2, none⟩ (.int .i64 y.f2)).setCell ⟨v2.heap.size, 3, none⟩ (.int .i64 y.f3)).setCell ⟨v2.heap.size, 4, none⟩ (.slice A6 y.f4.length c6)).heap[v3.heap.size]? = some (Obj.cells #[.int .i64 x.f0, .string x.f1, .int .i64 x.f2, .int .i64 x.f3, .slice A5 x.f4.length c5] 24) := (blk_far (blk_far (blk_far (blk_far (blk_far V5.out (show v3.heap.size ≠ v2.heap.size from (Ne.symm hne)) _) (show v3.heap.size ≠ v2.heap.size from (Ne.symm hne)) _) (show v3.heap.size ≠ v2.heap.size from (Ne.symm hne)) _) (show v3.heap.size ≠ v2.heap.size from (Ne.symm hne)) _) (show v3.heap.size ≠ v2.heap.size from (Ne.symm hne)) _)
              have hbs : Below w5.heap.size w5 (((((v5.setCell ⟨v2.heap.size, 0, none⟩ (.int .i64 y.f0)).setCell ⟨v2.heap.size, 1, none⟩ (.string y.f1)).setCell ⟨v2.heap.size, 2, none⟩ (.int .i64 y.f2)).setCell ⟨v2.heap.size, 3, none⟩ (.int .i64 y.f3)).setCell ⟨v2.heap.size, 4, none⟩ (.slice A6 y.f4.length c6)) := (below_set (below_set (below_set (below_set (below_set hHeld.2.2.2.2.2.2.2.2.2.2 hge6) hge6) hge6) hge6) hge6)
              have ra2 : Kd.R k24 24 (((((v5.setCell ⟨v2.heap.size, 0, none⟩ (.int .i64 y.f0)).setCell ⟨v2.heap.size, 1, none⟩ (.string y.f1)).setCell ⟨v2.heap.size, 2, none⟩ (.int .i64 y.f2)).setCell ⟨v2.heap.size, 3, none⟩ (.int .i64 y.f3)).setCell ⟨v2.heap.size, 4, none⟩ (.slice A6 y.f4.length c6)) _ _ _ _ := (Kd.R_far (Kd.R_far (Kd.R_far (Kd.R_far (Kd.R_far RA.out (show ∀ k, _ → k ≠ v2.heap.size from fun k hk => by have := Z1.out; have := Z2.out; have := Z3.out; have := L6.out; have := Z4.out; have := L5.out; omega) _) (show ∀ k, _ → k ≠ v2.heap.size from fun k hk => by have := Z1.out; have := Z2.out; have := Z3.out; have := L6.out; have := Z4.out; have := L5.out; omega) _) (show ∀ k, _ → k ≠ v2.heap.size from fun k hk => by have := Z1.out; have := Z2.out; have := Z3.out; have := L6.out; have := Z4.out; have := L5.out; omega) _) (show ∀ k, _ → k ≠ v2.heap.size from fun k hk => by have := Z1.out; have := Z2.out; have := Z3.out; have := L6.out; have := Z4.out; have := L5.out; omega) _) (show ∀ k, _ → k ≠ v2.heap.size from fun k hk => by have := Z1.out; have := Z2.out; have := Z3.out; have := L6.out; have := Z4.out; have := L5.out; omega) _)
              have rb2 : Kd.R k24 24 (((((v5.setCell ⟨v2.heap.size, 0, none⟩ (.int .i64 y.f0)).setCell ⟨v2.heap.size, 1, none⟩ (.string y.f1)).setCell ⟨v2.heap.size, 2, none⟩ (.int .i64 y.f2)).setCell ⟨v2.heap.size, 3, none⟩ (.int .i64 y.f3)).setCell ⟨v2.heap.size, 4, none⟩ (.slice A6 y.f4.length c6)) _ _ _ _ := (Kd.R_far (Kd.R_far (Kd.R_far (Kd.R_far (Kd.R_far RB.out (show ∀ k, _ → k ≠ v2.heap.size from fun k hk => by have := Z1.out; have := Z2.out; have := Z3.out; have := L6.out; have := Z4.out; have := L5.out; omega) _) (show ∀ k, _ → k ≠ v2.heap.size from fun k hk => by have := Z1.out; have := Z2.out; have := Z3.out; have := L6.out; have := Z4.out; have := L5.out; omega) _) (show ∀ k, _ → k ≠ v2.heap.size from fun k hk => by have := Z1.out; have := Z2.out; have := Z3.out; have := L6.out; have := Z4.out; have := L5.out; omega) _) (show ∀ k, _ → k ≠ v2.heap.size from fun k hk => by have := Z1.out; have := Z2.out; have := Z3.out; have := L6.out; have := Z4.out; have := L5.out; omega) _) (show ∀ k, _ → k ≠ v2.heap.size from fun k hk => by have := Z1.out; have := Z2.out; have := Z3.out; have := L6.out; have := Z4.out; have := L5.out; omega) _)
              generalize (((((v5.setCell ⟨v2.heap.size, 0, none⟩ (.int .i64 y.f0)).setCell ⟨v2.heap.size, 1, none⟩ (.string y.f1)).setCell ⟨v2.heap.size, 2, none⟩ (.int .i64 y.f2)).setCell ⟨v2.heap.size, 3, none⟩ (.int .i64 y.f3)).setCell ⟨v2.heap.size, 4, none⟩ (.slice A6 y.f4.length c6)) = v6 at vb2 vo hbs ra2 rb2 ⊢
              clear V5 V6 RA RB
              have V6 := Lib.hid vb2; have V5 := Lib.hid vo; have RA := Lib.hid ra2; have RB := Lib.hid rb2
              clear vb vb2 vo ra2 rb2 u0 u1 u2 u3 u4 z0 z1 z2 z3 z4
              refine hK.out _ _ ?_ (fun hHeld => ?_)
              · (try dsimp only); exact TreeFix.keep10 ⟨a0, a1, a2, a3, a4, b0, b1, b2, b3, b4, Below.refl _ _⟩ hbs
              clear hK K
              (try simp only [Act.put, List.getElem_toArray, List.getElem_cons_succ, List.getElem_cons_zero, List.setIfInBounds_toArray, List.set_cons_zero, List.set_cons_succ])
              refine wpAnyH_done (by kernel_rfl) ?_ _
              exact KEY v3.heap.size v2.heap.size A5 c5 A6 c6 v6 hbs V5.out V6.out (Kd.R_reads' RA.out).2.2 hc5 (Kd.R_reads' RB.out).2.2 hc6
          · (try simp only [List.getElem_toArray, List.getElem_cons_succ, List.getElem_cons_zero])
            go_simp
            have hb : Below v1.heap.size v1 (v1.alloc (Obj.cells #[.int .i64 0, .string ⟨#[]⟩, .int .i64 0, .int .i64 0, .slice none 0 0] 24)) := below_alloc (Below.refl _ _) _
            have vb : (v1.alloc (Obj.cells #[.int .i64 0, .string ⟨#[]⟩, .int .i64 0, .int .i64 0, .slice none 0 0] 24)).heap[v1.heap.size]? = some (Obj.cells #[.int .i64 0, .string ⟨#[]⟩, .int .i64 0, .int .i64 0, .slice none 0 0] 24) := blk_new _ _
            generalize (v1.alloc (Obj.cells #[.int .i64 0, .string ⟨#[]⟩, .int .i64 0, .int .i64 0, .slice none 0 0] 24)) = v2 at hb vb ⊢
            have n_ := Lib.hid (Kd.R_below RA.out hb)
            clear RA
            have RA := n_
            clear n_
            have V5 := Lib.hid vb
            have Z2 := Lib.hid hb.size
            have L5 := Lib.hid (blk_lt vb)
            clear vb
            refine hK.out _ _ ?_ (fun hHeld => ?_)
            · (try dsimp only); exact TreeFix.keep10 hHeld hb
            clear hK K
            (try simp only [Act.put, List.getElem_toArray, List.getElem_cons_succ, List.getElem_cons_zero, List.setIfInBounds_toArray, List.set_cons_zero, List.set_cons_succ])
            refine wpAnyH_ready (rs := [3, 5]) (by kernel_rfl) (by simp) ?_
            refine AllReadyH.cons rfl (fun K hK => ?_) (AllReadyH.cons rfl (fun K hK => ?_) (AllReadyH.nil))
            · (try simp only [List.getElem_toArray, List.getElem_cons_succ, List.getElem_cons_zero])
              go_simp
              refine (tree_Bare.calls qb b.f0 b.f1 b.f2 b.f3 Ab cb b.f4 y.f0 y.f1 y.f2 y.f3 y.f4 _ (Kd.C_below Cb.out hHeld.2.2.2.2.2.2.2.2.2.2) hlb Kb.out).mono ?_
              rintro e v3 ⟨v_, rfl, ra, hb⟩
              obtain ⟨A6, c6, rfl, hc6, _⟩ := Kd.R_reads ra
              have RB := Lib.hid (Kd.R_mono (Kd.R_bound ra) (fun k hk => (⟨hk.2.1, hk.2.2.1⟩ : v2.heap.size ≤ k ∧ k < v3.heap.size)))
              clear ra
              have n_ := Lib.hid (Kd.R_below RA.out hb)
              clear RA
              have RA := n_
              clear n_
              have n_ := Lib.hid (blk_below V5.out hb)
              clear V5
              have V5 := n_
              clear n_
              have Z3 := Lib.hid hb.size
              simp only []
              refine hK.out _ _ ?_ (fun hHeld => ?_)
              · (try dsimp only); exact TreeFix.keep10 hHeld hb
              clear hK K
              (try simp only [Act.put, List.getElem_toArray, List.getElem_cons_succ, List.getElem_cons_zero, List.setIfInBounds_toArray, List.set_cons_zero, List.set_cons_succ])
              refine wpAnyH_ready (rs := [5]) (by kernel_rfl) (by simp) ?_
              refine AllReadyH.cons rfl (fun K hK => ?_) (AllReadyH.nil)
              (try simp only [List.getElem_toArray, List.getElem_cons_succ, List.getElem_cons_zero])
              go_simp
              have hb : Below v3.heap.size v3 (v3.alloc (Obj.cells #[.int .i64 0, .string ⟨#[]⟩, .int .i64 0, .int .i64 0, .slice none 0 0] 24)) := below_alloc (Below.refl _ _) _
              have vb : (v3.alloc (Obj.cells #[.int .i64 0, .string ⟨#[]⟩, .int .i64 0, .int .i64 0, .slice none 0 0] 24)).heap[v3.heap.size]? = some (Obj.cells #[.int .i64 0, .string ⟨#[]⟩, .int .i64 0, .int .i64 0, .slice none 0 0] 24) := blk_new _ _
              generalize (v3.alloc (Obj.cells #[.int .i64 0, .string ⟨#[]⟩, .int .i64 0, .int .i64 0, .slice none 0 0] 24)) = v4 at hb vb ⊢
              have n_ := Lib.hid (Kd.R_below RA.out hb)
              clear RA
              have RA := n_
              clear n_
              have n_ := Lib.hid (blk_below V5.out hb)
              clear V5
              have V5 := n_
              clear n_
              have n_ := Lib.hid (Kd.R_below RB.out hb)
              clear RB
              have RB := n_
              clear n_
              have V6 := Lib.hid vb
              have Z4 := Lib.hid hb.size
              have L6 := Lib.hid (blk_lt vb)
              clear vb
              refine hK.out _ _ ?_ (fun hHeld => ?_)
              · (try dsimp only); exact TreeFix.keep10 hHeld hb
              clear hK K
              (try simp only [Act.put, List.getElem_toArray, List.getElem_cons_succ, List.getElem_cons_zero, List.setIfInBounds_toArray, List.set_cons_zero, List.set_cons_succ])
              have hge5 : w5.heap.size ≤ v1.heap.size := by have := Z1.out; have := Z2.out; have := L5.out; have := Z3.out; have := Z4.out; have := L6.out; omega
              have hge6 : w5.heap.size ≤ v3.heap.size := by have := Z1.out; have := Z2.out; have := L5.out; have := Z3.out; have := Z4.out; have := L6.out; omega
              have hne : v3.heap.size ≠ v1.heap.size := by have := Z1.out; have := Z2.out; have := L5.out; have := Z3.out; have := Z4.out; have := L6.out; omega
              have vb := V5.out
              have u0 := blk_cell vb 0
              have u1 := blk_cell vb 1
              have u2 := blk_cell vb 2
              have u3 := blk_cell vb 3
              have u4 := blk_cell vb 4
              simp only [List.getElem?_toArray, List.getElem?_cons_zero, List.getElem?_cons_succ] at u0 u1 u2 u3 u4
              have z0 := blk_frozen vb 0
              have z1 := blk_frozen vb 1
              have z2 := blk_frozen vb 2
              have z3 := blk_frozen vb 3
              have z4 := blk_frozen vb 4
              refine wpAnyH_ready (rs := [6]) (by kernel_rfl) (by simp) ?_
              refine AllReadyH.cons rfl (fun K hK => ?_) (AllReadyH.nil)
              (try simp only [List.getElem_toArray, List.getElem_cons_succ, List.getElem_cons_zero])
              go_simp
              have vb2 : (((((v4.setCell ⟨v1.heap.size, 0, none⟩ (.int .i64 x.f0)).setCell ⟨v1.heap.size, 1, none⟩ (.string x.f1)).setCell ⟨v1.heap.size, 2, none⟩ (.int .i64 x.f2)).setCell ⟨v1.heap.size, 3, none⟩ (.int .i64 x.f3)).setCell ⟨v1.heap.size, 4, none⟩ (.slice A5 x.f4.length c5)).heap[v1.heap.size]? = some (Obj.cells #[.int .i64 x.f0, .string x.f1, .int .i64 x.f2, .int .i64 x.f3, .slice A5 x.f4.length c5] 24) := (blk_put (blk_put (blk_put (blk_put (blk_put vb 0 (.int .i64 x.f0) rfl) 1 (.string x.f1) rfl) 2 (.int .i64 x.f2) rfl) 3 (.int .i64 x.f3) rfl) 4 (.slice A5 x.f4.length c5) rfl)
              have vo : (((((v4.setCell ⟨v1.heap.size, 0, none⟩ (.int .i64 x.f0)).setCell ⟨v1.heap.size, 1, none⟩ (.string x.f1)).setCell ⟨v1.heap.size, 2, none⟩ (.int .i64 x.f2)).setCell ⟨v1.heap.size, 3, none⟩ (.int .i64 x.f3)).setCell ⟨v1.heap.size, 4, none⟩ (.slice A5 x.f4.length c5)).heap[v3.heap.size]? = some (Obj.cells #[.int .i64 0, .string ⟨#[]⟩, .int .i64 0, .int .i64 0, .slice none 0 0] 24) := (blk_far (blk_far (blk_far (blk_far (blk_far V6.out (show v3.heap.size ≠ v1.heap.size from hne) _) (show v3.heap.size ≠ v1.heap.size from hne) _) (show v3.heap.size ≠ v1.heap.size from hne) _) (show v3.heap.size ≠ v1.heap.size from hne) _) (show v3.heap.size ≠ v1.heap.size from hne) _)
              have hbs : Below w5.heap.size w5 (((((v4.setCell ⟨v1.heap.size, 0, none⟩ (.int .i64 x.f0)).setCell ⟨v1.heap.size, 1, none⟩ (.string x.f1)).setCell ⟨v1.heap.size, 2, none⟩ (.int .i64 x.f2)).setCell ⟨v1.heap.size, 3, none⟩ (.int .i64 x.f3)).setCell ⟨v1.heap.size, 4, none⟩ (.slice A5 x.f4.length c5)) := (below_set (below_set (below_set (below_set (below_set hHeld.2.2.2.2.2.2.2.2.2.2 hge5) hge5) hge5) hge5) hge5)
              have ra2 : Kd.R k24 24 (((((v4.setCell ⟨v1.heap.size, 0, none⟩ (.int .i64 x.f0)).setCell ⟨v1.heap.size, 1, none⟩ (.string x.f1)).setCell ⟨v1.heap.size, 2, none⟩ (.int .i64 x.f2)).setCell ⟨v1.heap.size, 3, none⟩ (.int .i64 x.f3)).setCell ⟨v1.heap.size, 4, none⟩ (.slice A5 x.f4.length c5)) _ _ _ _ := (Kd.R_far (Kd.R_far (Kd.R_far (Kd.R_far (Kd.R_far RA.out (show ∀ k, _ → k ≠ v1.heap.size from fun k hk => by have := Z1.out; have := Z2.out; have := L5.out; have := Z3.out; have := Z4.out; have := L6.out; omega) _) (show ∀ k, _ → k ≠ v1.heap.size from fun k hk => by have := Z1.out; have := Z2.out; have := L5.out; have := Z3.out; have := Z4.out; have := L6.out; omega) _) (show ∀ k, _ → k ≠ v1.heap.size from fun k hk => by have := Z1.out; have := Z2.out; have := L5.out; have := Z3.out; have := Z4.out; have := L6.out; omega) _) (show ∀ k, _ → k ≠ v1.heap.size from fun k hk => by have := Z1.out; have := Z2.out; have := L5.out; have := Z3.out; have := Z4.out; have := L6.out; omega) _) (show ∀ k, _ → k ≠ v1.heap.size from fun k hk => by have := Z1.out; have := Z2.out; have := L5.out; have := Z3.out; have := Z4.out; have := L6.out; omega) _)
              have rb2 : Kd.R k24 24 (((((v4.setCell ⟨v1.heap.size, 0, none⟩ (.int .i64 x.f0)).setCell ⟨v1.heap.size, 1, none⟩ (.string x.f1)).setCell ⟨v1.heap.size, 2, none⟩ (.int .i64 x.f2)).setCell ⟨v1.heap.size, 3, none⟩ (.int .i64 x.f3)).setCell ⟨v1.heap.size, 4, none⟩ (.slice A5 x.f4.length c5)) _ _ _ _ := (Kd.R_far (Kd.R_far (Kd.R_far (Kd.R_far (Kd.R_far RB.out (show ∀ k, _ → k ≠ v1.heap.size from fun k hk => by have := Z1.out; have := Z2.out; have := L5.out; have := Z3.out; have := Z4.out; have := L6.out; omega) _) (show ∀ k, _ → k ≠ v1.heap.size from fun k hk => by have := Z1.out; have := Z2.out; have := L5.out; have := Z3.out; have := Z4.out; have := L6.out; omega) _) (show ∀ k, _ → k ≠ v1.heap.size from fun k hk => by have := Z1.out; have := Z2.out; have := L5.out; have := Z3.out; have := Z4.out; have := L6.out; omega) _) (show ∀ k, _ → k ≠ v1.heap.size from fun k hk => by have := Z1.out; have := Z2.out; have := L5.out; have := Z3.out; have := Z4.out; have := L6.out; omega) _) (show ∀ k, _ → k ≠ v1.heap.size from fun k hk => by have := Z1.out; have := Z2.out; have := L5.out; have := Z3.out; have := Z4.out; have := L6.out; omega) _)
              generalize (((((v4.setCell ⟨v1.heap.size, 0, none⟩ (.int .i64 x.f0)).setCell ⟨v1.heap.size, 1, none⟩ (.string x.f1)).setCell ⟨v1.heap.size, 2, none⟩ (.int .i64 x.f2)).setCell ⟨v1.heap.size, 3, none⟩ (.int .i64 x.f3)).setCell ⟨v1.heap.size, 4, none⟩ (.slice A5 x.f4.length c5)) = v5 at vb2 vo hbs ra2 rb2 ⊢
              clear V5 V6 RA RB
              have V5 := Lib.hid vb2; have V6 := Lib.hid vo; have RA := Lib.hid ra2; have RB := Lib.hid rb2
              clear vb vb2 vo ra2 rb2 u0 u1 u2 u3 u4 z0 z1 z2 z3 z4
              refine hK.out _ _ ?_ (fun hHeld => ?_)
              · (try dsimp only); exact TreeFix.keep10 ⟨a0, a1, a2, a3, a4, b0, b1, b2, b3, b4, Below.refl _ _⟩ hbs
              clear hK K
              (try simp only [Act.put, List.getElem_toArray, List.getElem_cons_succ, List.getElem_cons_zero, List.setIfInBounds_toArray, List.set_cons_zero, List.set_cons_succ])
              clear hbs
              have vb := V6.out
              have u0 := blk_cell vb 0
              have u1 := blk_cell vb 1
              have u2 := blk_cell vb 2
              have u3 := blk_cell vb 3
              have u4 := blk_cell vb 4
              simp only [List.getElem?_toArray, List.getElem?_cons_zero, List.getElem?_cons_succ] at u0 u1 u2 u3 u4
              have z0 := blk_frozen vb 0
              have z1 := blk_frozen vb 1
              have z2 := blk_frozen vb 2
              have z3 := blk_frozen vb 3
              have z4 := blk_frozen vb 4
              refine wpAnyH_ready (rs := [7]) (by kernel_rfl) (by simp) ?_
              refine AllReadyH.cons rfl (fun K hK => ?_) (AllReadyH.nil)
              (try simp only [List.getElem_toArray, List.getElem_cons_succ, List.getElem_cons_zero])
              go_simp
              have vb2 : (((((v5.setCell ⟨v3.heap.size, 0, none⟩ (.int .i64 y.f0)).setCell ⟨v3.heap.size, 1, none⟩ (.string y.f1)).setCell ⟨v3.heap.size, 2, none⟩ (.int .i64 y.f2)).setCell ⟨v3.heap.size, 3, none⟩ (.int .i64 y.f3)).setCell ⟨v3.heap.size, 4, none⟩ (.slice A6 y.f4.length c6)).heap[v3.heap.size]? = some (Obj.cells #[.int .i64 y.f0, .string y.f1, .int .i64 y.f2, .int .i64 y.f3, .slice A6 y.f4.length c6] 24) := (blk_put (blk_put (blk_put (blk_put (blk_put vb 0 (.int .i64 y.f0) rfl) 1 (.string y.f1) rfl) 2 (.int .i64 y.f2) rfl) 3 (.int .i64 y.f3) rfl) 4 (.slice A6 y.f4.length c6) rfl)
              have vo : (((((v5.setCell ⟨v3.heap.size, 0, none⟩ (.int .i64 y.f0)).setCell ⟨v3.heap.size, 1, none⟩ (.string y.f1)).setCell ⟨v3.heap.size, 2, none⟩ (.int .i64 y.f2)).setCell ⟨v3.heap.size, 3, none⟩ (.int .i64 y.f3)).setCell ⟨v3.heap.size, 4, none⟩ (.slice A6 y.f4.length c6)).heap[v1.heap.size]? = some (Obj.cells #[.int .i64 x.f0, .string x.f1, .int .i64 x.f2, .int .i64 x.f3, .slice A5 x.f4.length c5] 24) := (blk_far (blk_far (blk_far (blk_far (blk_far V5.out (show v1.heap.size ≠ v3.heap.size from (Ne.symm hne)) _) (show v1.heap.size ≠ v3.heap.size from (Ne.symm hne)) _) (show v1.heap.size ≠ v3.heap.size from (Ne.symm hne)) _) (show v1.heap.size ≠ v3.heap.size from (Ne.symm hne)) _) (show v1.heap.size ≠ v3.heap.size from (Ne.symm hne)) _)
              have hbs : Below w5.heap.size w5 (((((v5.setCell ⟨v3.heap.size, 0, none⟩ (.int .i64 y.f0)).setCell ⟨v3.heap.size, 1, none⟩ (.string y.f1)).setCell ⟨v3.heap.size, 2, none⟩ (.int .i64 y.f2)).setCell ⟨v3.heap.size, 3, none⟩ (.int .i64 y.f3)).setCell ⟨v3.heap.size, 4, none⟩ (.slice A6 y.f4.length c6)) := (below_set (below_set (below_set (below_set (below_set hHeld.2.2.2.2.2.2.2.2.2.2 hge6) hge6) hge6) hge6) hge6)
              have ra2 : Kd.R k24 24 (((((v5.setCell ⟨v3.heap.size, 0, none⟩ (.int .i64 y.f0)).setCell ⟨v3.heap.size, 1, none⟩ (.string y.f1)).setCell ⟨v3.heap.size, 2, none⟩ (.int .i64 y.f2)).setCell ⟨v3.heap.size, 3, none⟩ (.int .i64 y.f3)).setCell ⟨v3.heap.size, 4, none⟩ (.slice A6 y.f4.length c6)) _ _ _ _ := (Kd.R_far (Kd.R_far (Kd.R_far (Kd.R_far (Kd.R_far RA.out (show ∀ k, _ → k ≠ v3.heap.size from fun k hk => by have := Z1.out; have := Z2.out; have := L5.out; have := Z3.out; have := Z4.out; have := L6.out; omega) _) (show ∀ k, _ → k ≠ v3.heap.size from fun k hk => by have := Z1.out; have := Z2.out; have := L5.out; have := Z3.out; have := Z4.out; have := L6.out; omega) _) (show ∀ k, _ → k ≠ v3.heap.size from fun k hk => by have := Z1.out; have := Z2.out; have := L5.out; have := Z3.out; have := Z4.out; have := L6.out; omega) _) (show ∀ k, _ → k ≠ v3.heap.size from fun k hk => by have := Z1.out; have := Z2.out; have := L5.out; have := Z3.out; have := Z4.out; have := L6.out; omega) _) (show ∀ k, _ → k ≠ v3.heap.size from fun k hk => by have := Z1.out; have := Z2.out; have := L5.out; have := Z3.out; have := Z4.out; have := L6.out; omega) _)
              have rb2 : Kd.R k24 24 (((((v5.setCell ⟨v3.heap.size, 0, none⟩ (.int .i64 y.f0)).setCell ⟨v3.heap.size, 1, none⟩ (.string y.f1)).setCell ⟨v3.heap.size, 2, none⟩ (.int .i64 y.f2)).setCell ⟨v3.heap.size, 3, none⟩ (.int .i64 y.f3)).setCell ⟨v3.heap.size, 4, none⟩ (.slice A6 y.f4.length c6)) _ _ _ _ := (Kd.R_far (Kd.R_far (Kd.R_far (Kd.R_far (Kd.R_far RB.out (show ∀ k, _ → k ≠ v3.heap.size from fun k hk => by have := Z1.out; have := Z2.out; have := L5.out; have := Z3.out; have := Z4.out; have := L6.out; omega) _) (show ∀ k, _ → k ≠ v3.heap.size from fun k hk => by have := Z1.out; have := Z2.out; have := L5.out; have := Z3.out; have := Z4.out; have := L6.out; omega) _) (show ∀ k, _ → k ≠ v3.heap.size from fun k hk => by have := Z1.out; have := Z2.out; have := L5.out; have := Z3.out; have := Z4.out; have := L6.out; omega) _) (show ∀ k, _ → k ≠ v3.heap.size from fun k hk => by have := Z1.out; have := Z2.out; have := L5.out; have := Z3.out; have := Z4.out; have := L6.out; omega) _) (show ∀ k, _ → k ≠ v3.heap.size from fun k hk => by have := Z1.out; have := Z2.out; have := L5.out; have := Z3.out; have := Z4.out; have := L6.out; omega) _)
              generalize (((((v5.setCell ⟨v3.heap.size, 0, none⟩ (.int .i64 y.f0)).setCell ⟨v3.heap.size, 1, none⟩ (.string y.f1)).setCell ⟨v3.heap.size, 2, none⟩ (.int .i64 y.f2)).setCell ⟨v3.heap.size, 3, none⟩ (.int .i64 y.f3)).setCell ⟨v3.heap.size, 4, none⟩ (.slice A6 y.f4.length c6)) = v6 at vb2 vo hbs ra2 rb2 ⊢
              clear V5 V6 RA RB
              have V6 := Lib.hid vb2; have V5 := Lib.hid vo; have RA := Lib.hid ra2; have RB := Lib.hid rb2
              clear vb vb2 vo ra2 rb2 u0 u1 u2 u3 u4 z0 z1 z2 z3 z4
              refine hK.out _ _ ?_ (fun hHeld => ?_)
              · (try dsimp only); exact TreeFix.keep10 ⟨a0, a1, a2, a3, a4, b0, b1, b2, b3, b4, Below.refl _ _⟩ hbs
              clear hK K
              (try simp only [Act.put, List.getElem_toArray, List.getElem_cons_succ, List.getElem_cons_zero, List.setIfInBounds_toArray, List.set_cons_zero, List.set_cons_succ])
              refine wpAnyH_done (by kernel_rfl) ?_ _
              exact KEY v1.heap.size v3.heap.size A5 c5 A6 c6 v6 hbs V5.out V6.out (Kd.R_reads' RA.out).2.2 hc5 (Kd.R_reads' RB.out).2.2 hc6
            · (try simp only [List.getElem_toArray, List.getElem_cons_succ, List.getElem_cons_zero])
              go_simp
              have hb : Below v2.heap.size v2 (v2.alloc (Obj.cells #[.int .i64 0, .string ⟨#[]⟩, .int .i64 0, .int .i64 0, .slice none 0 0] 24)) := below_alloc (Below.refl _ _) _
              have vb : (v2.alloc (Obj.cells #[.int .i64 0, .string ⟨#[]⟩, .int .i64 0, .int .i64 0, .slice none 0 0] 24)).heap[v2.heap.size]? = some (Obj.cells #[.int .i64 0, .string ⟨#[]⟩, .int .i64 0, .int .i64 0, .slice none 0 0] 24) := blk_new _ _
              generalize (v2.alloc (Obj.cells #[.int .i64 0, .string ⟨#[]⟩, .int .i64 0, .int .i64 0, .slice none 0 0] 24)) = v3 at hb vb ⊢
              have n_ := Lib.hid (Kd.R_below RA.out hb)
              clear RA
              have RA := n_
              clear n_
              have n_ := Lib.hid (blk_below V5.out hb)
              clear V5
              have V5 := n_
              clear n_
              have V6 := Lib.hid vb
              have Z3 := Lib.hid hb.size
              have L6 := Lib.hid (blk_lt vb)
              clear vb
              refine hK.out _ _ ?_ (fun hHeld => ?_)
              · (try dsimp only); exact TreeFix.keep10 hHeld hb
              clear hK K
              (try simp only [Act.put, List.getElem_toArray, List.getElem_cons_succ, List.getElem_cons_zero, List.setIfInBounds_toArray, List.set_cons_zero, List.set_cons_succ])
              refine wpAnyH_ready (rs := [3]) (by kernel_rfl) (by simp) ?_
              refine AllReadyH.cons rfl (fun K hK => ?_) (AllReadyH.nil)
              (try simp only [List.getElem_toArray, List.getElem_cons_succ, List.getElem_cons_zero])
              go_simp
              refine (tree_Bare.calls qb b.f0 b.f1 b.f2 b.f3 Ab cb b.f4 y.f0 y.f1 y.f2 y.f3 y.f4 _ (Kd.C_below Cb.out hHeld.2.2.2.2.2.2.2.2.2.2) hlb Kb.out).mono ?_
              rintro e v4 ⟨v_, rfl, ra, hb⟩
              obtain ⟨A6, c6, rfl, hc6, _⟩ := Kd.R_reads ra
              have RB := Lib.hid (Kd.R_mono (Kd.R_bound ra) (fun k hk => (⟨hk.2.1, hk.2.2.1⟩ : v3.heap.size ≤ k ∧ k < v4.heap.size)))
              clear ra
              have n_ := Lib.hid (Kd.R_below RA.out hb)
              clear RA
              have RA := n_
              clear n_
              have n_ := Lib.hid (blk_below V6.out hb)
              clear V6
              have V6 := n_
              clear n_
              have n_ := Lib.hid (blk_below V5.out hb)
              clear V5
              have V5 := n_
              clear n_
              have Z4 := Lib.hid hb.size
              simp only []
              refine hK.out _ _ ?_ (fun hHeld => ?_)
              · (try dsimp only); exact TreeFix.keep10 hHeld hb
              clear hK K
              (try simp only [Act.put, List.getElem_toArray, List.getElem_cons_succ, List.getElem_cons_zero, List.setIfInBounds_toArray, List.set_cons_zero, List.set_cons_succ])
              have hge5 : w5.heap.size ≤ v1.heap.size := by have := Z1.out; have := Z2.out; have := L5.out; have := Z3.out; have := L6.out; have := Z4.out; omega
              have hge6 : w5.heap.size ≤ v2.heap.size := by have := Z1.out; have := Z2.out; have := L5.out; have := Z3.out; have := L6.out; have := Z4.out; omega
              have hne : v2.heap.size ≠ v1.heap.size := by have := Z1.out; have := Z2.out; have := L5.out; have := Z3.out; have := L6.out; have := Z4.out; omega
              have vb := V5.out
              have u0 := blk_cell vb 0
              have u1 := blk_cell vb 1
              have u2 := blk_cell vb 2
              have u3 := blk_cell vb 3
              have u4 := blk_cell vb 4
              simp only [List.getElem?_toArray, List.getElem?_cons_zero, List.getElem?_cons_succ] at u0 u1 u2 u3 u4
              have z0 := blk_frozen vb 0
              have z1 := blk_frozen vb 1
              have z2 := blk_frozen vb 2
              have z3 := blk_frozen vb 3
              have z4 := blk_frozen vb 4
              refine wpAnyH_ready (rs := [6]) (by kernel_rfl) (by simp) ?_
              refine AllReadyH.cons rfl (fun K hK => ?_) (AllReadyH.nil)
              (try simp only [List.getElem_toArray, List.getElem_cons_succ, List.getElem_cons_zero])
              go_simp
              have vb2 : (((((v4.setCell ⟨v1.heap.size, 0, none⟩ (.int .i64 x.f0)).setCell ⟨v1.heap.size, 1, none⟩ (.string x.f1)).setCell ⟨v1.heap.size, 2, none⟩ (.int .i64 x.f2)).setCell ⟨v1.heap.size, 3, none⟩ (.int .i64 x.f3)).setCell ⟨v1.heap.size, 4, none⟩ (.slice A5 x.f4.length c5)).heap[v1.heap.size]? = some (Obj.cells #[.int .i64 x.f0, .string x.f1, .int .i64 x.f2, .int .i64 x.f3, .slice A5 x.f4.length c5] 24) := (blk_put (blk_put (blk_put (blk_put (blk_put vb 0 (.int .i64 x.f0) rfl) 1 (.string x.f1) rfl) 2 (.int .i64 x.f2) rfl) 3 (.int .i64 x.f3) rfl) 4 (.slice A5 x.f4.length c5) rfl)
              have vo : (((((v4.setCell ⟨v1.heap.size, 0, none⟩ (.int .i64 x.f0)).setCell ⟨v1.heap.size, 1, none⟩ (.string x.f1)).setCell ⟨v1.heap.size, 2, none⟩ (.int .i64 x.f2)).setCell ⟨v1.heap.size, 3, none⟩ (.int .i64 x.f3)).setCell ⟨v1.heap.size, 4, none⟩ (.slice A5 x.f4.length c5)).heap[v2.heap.size]? = some (Obj.cells #[.int .i64 0, .string ⟨#[]⟩, .int .i64 0, .int .i64 0, .slice none 0 0] 24) := (blk_far (blk_far (blk_far (blk_far (blk_far V6.out (show v2.heap.size ≠ v1.heap.size from hne) _) (show v2.heap.size ≠ v1.heap.size from hne) _) (show v2.heap.size ≠ v1.heap.size from hne) _) (show v2.heap.size ≠ v1.heap.size from hne) _) (show v2.heap.size ≠ v1.heap.size from hne) _)
              have hbs : Below w5.heap.size w5 (((((v4.setCell ⟨v1.heap.size, 0, none⟩ (.int .i64 x.f0)).setCell ⟨v1.heap.size, 1, none⟩ (.string x.f1)).setCell ⟨v1.heap.size, 2, none⟩ (.int .i64 x.f2)).setCell ⟨v1.heap.size, 3, none⟩ (.int .i64 x.f3)).setCell ⟨v1.heap.size, 4, none⟩ (.slice A5 x.f4.length c5)) := (below_set (below_set (below_set (below_set (below_set hHeld.2.2.2.2.2.2.2.2.2.2 hge5) hge5) hge5) hge5) hge5)
              have ra2 : Kd.R k24 24 (((((v4.setCell ⟨v1.heap.size, 0, none⟩ (.int .i64 x.f0)).setCell ⟨v1.heap.size, 1, none⟩ (.string x.f1)).setCell ⟨v1.heap.size, 2, none⟩ (.int .i64 x.f2)).setCell ⟨v1.heap.size, 3, none⟩ (.int .i64 x.f3)).setCell ⟨v1.heap.size, 4, none⟩ (.slice A5 x.f4.length c5)) _ _ _ _ := (Kd.R_far (Kd.R_far (Kd.R_far (Kd.R_far (Kd.R_far RA.out (show ∀ k, _ → k ≠ v1.heap.size from fun k hk => by have := Z1.out; have := Z2.out; have := L5.out; have := Z3.out; have := L6.out; have := Z4.out; omega) _) (show ∀ k, _ → k ≠ v1.heap.size from fun k hk => by have := Z1.out; have := Z2.out; have := L5.out; have := Z3.out; have := L6.out; have := Z4.out; omega) _) (show ∀ k, _ → k ≠ v1.heap.size from fun k hk => by have := Z1.out; have := Z2.out; have := L5.out; have := Z3.out; have := L6.out; have := Z4.out; omega) _) (show ∀ k, _ → k ≠ v1.heap.size from fun k hk => by have := Z1.out; have := Z2.out; have := L5.out; have := Z3.out; have := L6.out; have := Z4.out; omega) _) (show ∀ k, _ → k ≠ v1.heap.size from fun k hk => by have := Z1.out; have := Z2.out; have := L5.out; have := Z3.out; have := L6.out; have := Z4.out; omega) _)
              have rb2 : Kd.R k24 24 (((((v4.setCell ⟨v1.heap.size, 0, none⟩ (.int .i64 x.f0)).setCell ⟨v1.heap.size, 1, none⟩ (.string x.f1)).setCell ⟨v1.heap.size, 2, none⟩ (.int .i64 x.f2)).setCell ⟨v1.heap.size, 3, none⟩ (.int .i64 x.f3)).setCell ⟨v1.heap.size, 4, none⟩ (.slice A5 x.f4.length c5)) _ _ _ _ := (Kd.R_far (Kd.R_far (Kd.R_far (Kd.R_far (Kd.R_far RB.out (show ∀ k, _ → k ≠ v1.heap.size from fun k hk => by have := Z1.out; have := Z2.out; have := L5.out; have := Z3.out; have := L6.out; have := Z4.out; omega) _) (show ∀ k, _ → k ≠ v1.heap.size from fun k hk => by have := Z1.out; have := Z2.out; have := L5.out; have := Z3.out; have := L6.out; have := Z4.out; omega) _) (show ∀ k, _ → k ≠ v1.heap.size from fun k hk => by have := Z1.out; have := Z2.out; have := L5.out; have := Z3.out; have := L6.out; have := Z4.out; omega) _) (show ∀ k, _ → k ≠ v1.heap.size from fun k hk => by have := Z1.out; have := Z2.out; have := L5.out; have := Z3.out; have := L6.out; have := Z4.out; omega) _) (show ∀ k, _ → k ≠ v1.heap.size from fun k hk => by have := Z1.out; have := Z2.out; have := L5.out; have := Z3.out; have := L6.out; have := Z4.out; omega) _)
              generalize (((((v4.setCell ⟨v1.heap.size, 0, none⟩ (.int .i64 x.f0)).setCell ⟨v1.heap.size, 1, none⟩ (.string x.f1)).setCell ⟨v1.heap.size, 2, none⟩ (.int .i64 x.f2)).setCell ⟨v1.heap.size, 3, none⟩ (.int .i64 x.f3)).setCell ⟨v1.heap.size, 4, none⟩ (.slice A5 x.f4.length c5)) = v5 at vb2 vo hbs ra2 rb2 ⊢
              clear V5 V6 RA RB
              have V5 := Lib.hid vb2; have V6 := Lib.hid vo; have RA := Lib.hid ra2; have RB := Lib.hid rb2
              clear vb vb2 vo ra2 rb2 u0 u1 u2 u3 u4 z0 z1 z2 z3 z4
              refine hK.out _ _ ?_ (fun hHeld => ?_)
              · (try dsimp only); exact TreeFix.keep10 ⟨a0, a1, a2, a3, a4, b0, b1, b2, b3, b4, Below.refl _ _⟩ hbs
              clear hK K
              (try simp only [Act.put, List.getElem_toArray, List.getElem_cons_succ, List.getElem_cons_zero, List.setIfInBounds_toArray, List.set_cons_zero, List.set_cons_succ])
              clear hbs
              have vb := V6.out
              have u0 := blk_cell vb 0
              have u1 := blk_cell vb 1
              have u2 := blk_cell vb 2
              have u3 := blk_cell vb 3
              have u4 := blk_cell vb 4
              simp only [List.getElem?_toArray, List.getElem?_cons_zero, List.getElem?_cons_succ] at u0 u1 u2 u3 u4
              have z0 := blk_frozen vb 0
              have z1 := blk_frozen vb 1
              have z2 := blk_frozen vb 2
              have z3 := blk_frozen vb 3
              have z4 := blk_frozen vb 4
              refine wpAnyH_ready (rs := [7]) (by kernel_rfl) (by simp) ?_
              refine AllReadyH.cons rfl (fun K hK => ?_) (AllReadyH.nil)
              (try simp only [List.getElem_toArray, List.getElem_cons_succ, List.getElem_cons_zero])
              go_simp
              have vb2 : (((((v5.setCell ⟨v2.heap.size, 0, none⟩ (.int .i64 y.f0)).setCell ⟨v2.heap.size, 1, none⟩ (.string y.f1)).setCell ⟨v2.heap.size, 2, none⟩ (.int .i64 y.f2)).setCell ⟨v2.heap.size, 3, none⟩ (.int .i64 y.f3)).setCell ⟨v2.heap.size, 4, none⟩ (.slice A6 y.f4.length c6)).heap[v2.heap.size]? = some (Obj.cells #[.int .i64 y.f0, .string y.f1, .int .i64 y.f2, .int .i64 y.f3, .slice A6 y.f4.length c6] 24) := (blk_put (blk_put (blk_put (blk_put (blk_put vb 0 (.int .i64 y.f0) rfl) 1 (.string y.f1) rfl) 2 (.int .i64 y.f2) rfl) 3 (.int .i64 y.f3) rfl) 4 (.slice A6 y.f4.length c6) rfl)
              have vo : (((((v5.setCell ⟨v2.heap.size, 0, none⟩ (.int .i64 y.f0)).setCell ⟨v2.heap.size, 1, none⟩ (.string y.f1)).setCell ⟨v2.heap.size, 2, none⟩ (.int .i64 y.f2)).setCell ⟨v2.heap.size, 3, none⟩ (.int .i64 y.f3)).setCell ⟨v2.heap.size, 4, none⟩ (.slice A6 y.f4.length c6)).heap[v1.heap.size]? = some (Obj.cells #[.int .i64 x.f0, .string x.f1, .int .i64 x.f2, .int .i64 x.f3, .slice A5 x.f4.length c5] 24) := (blk_far (blk_far (blk_far (blk_far (blk_far V5.out (show v1.heap.size ≠ v2.heap.size from (Ne.symm hne)) _) (show v1.heap.size ≠ v2.heap.size from (Ne.symm hne)) _) (show v1.heap.size ≠ v2.heap.size from (Ne.symm hne)) _) (show v1.heap.size ≠ v2.heap.size from (Ne.symm hne)) _) (show v1.heap.size ≠ v2.heap.size from (Ne.symm hne)) _)
              have hbs : Below w5.heap.size w5 (((((v5.setCell ⟨v2.heap.size, 0, none⟩ (.int .i64 y.f0)).setCell ⟨v2.heap.size, 1, none⟩ (.string y.f1)).setCell ⟨v2.heap.size, 2, none⟩ (.int .i64 y.f2)).setCell ⟨v2.heap.size, 3, none⟩ (.int .i64 y.f3)).setCell ⟨v2.heap.size, 4, none⟩ (.slice A6 y.f4.length c6)) := (below_set (below_set (below_set (below_set (below_set hHeld.2.2.2.2.2.2.2.2.2.2 hge6) hge6) hge6) hge6) hge6)
              have ra2 : Kd.R k24 24 (((((v5.setCell ⟨v2.heap.size, 0, none⟩ (.int .i64 y.f0)).setCell ⟨v2.heap.size, 1, none⟩ (.string y.f1)).setCell ⟨v2.heap.size, 2, none⟩ (.int .i64 y.f2)).setCell ⟨v2.heap.size, 3, none⟩ (.int .i64 y.f3)).setCell ⟨v2.heap.size, 4, none⟩ (.slice A6 y.f4.length c6)) _ _ _ _ := (Kd.R_far (Kd.R_far (Kd.R_far (Kd.R_far (Kd.R_far RA.out (show ∀ k, _ → k ≠ v2.heap.size from fun k hk => by have := Z1.out; have := Z2.out; have := L5.out; have := Z3.out; have := L6.out; have := Z4.out; omega) _) (show ∀ k, _ → k ≠ v2.heap.size from fun k hk => by have := Z1.out; have := Z2.out; have := L5.out; have := Z3.out; have := L6.out; have := Z4.out; omega) _) (show ∀ k, _ → k ≠ v2.heap.size from fun k hk => by have := Z1.out; have := Z2.out; have := L5.out; have := Z3.out; have := L6.out; have := Z4.out; omega) _) (show ∀ k, _ → k ≠ v2.heap.size from fun k hk => by have := Z1.out; have := Z2.out; have := L5.out; have := Z3.out; have := L6.out; have := Z4.out; omega) _) (show ∀ k, _ → k ≠ v2.heap.size from fun k hk => by have := Z1.out; have := Z2.out; have := L5.out; have := Z3.out; have := L6.out; have := Z4.out; omega) _)
              have rb2 : Kd.R k24 24 (((((v5.setCell ⟨v2.heap.size, 0, none⟩ (.int .i64 y.f0)).setCell ⟨v2.heap.size, 1, none⟩ (.string y.f1)).setCell ⟨v2.heap.size, 2, none⟩ (.int .i64 y.f2)).setCell ⟨v2.heap.size, 3, none⟩ (.int .i64 y.f3)).setCell ⟨v2.heap.size, 4, none⟩ (.slice A6 y.f4.length c6)) _ _ _ _ := (Kd.R_far (Kd.R_far (Kd.R_far (Kd.R_far (Kd.R_far RB.out (show ∀ k, _ → k ≠ v2.heap.size from fun k hk => by have := Z1.out; have := Z2.out; have := L5.out; have := Z3.out; have := L6.out; have := Z4.out; omega) _) (show ∀ k, _ → k ≠ v2.heap.size from fun k hk => by have := Z1.out; have := Z2.out; have := L5.out; have := Z3.out; have := L6.out; have := Z4.out; omega) _) (show ∀ k, _ → k ≠ v2.heap.size from fun k hk => by have := Z1.out; have := Z2.out; have := L5.out; have := Z3.out; have := L6.out; have := Z4.out; omega) _) (show ∀ k, _ → k ≠ v2.heap.size from fun k hk => by have := Z1.out; have := Z2.out; have := L5.out; have := Z3.out; have := L6.out; have := Z4.out; omega) _) (show ∀ k, _ → k ≠ v2.heap.size from fun k hk => by have := Z1.out; have := Z2.out; have := L5.out; have := Z3.out; have := L6.out; have := Z4.out; omega) _)
              generalize (((((v5.setCell ⟨v2.heap.size, 0, none⟩ (.int .i64 y.f0)).setCell ⟨v2.heap.size, 1, none⟩ (.string y.f1)).setCell ⟨v2.heap.size, 2, none⟩ (.int .i64 y.f2)).setCell ⟨v2.heap.size, 3, none⟩ (.int .i64 y.f3)).setCell ⟨v2.heap.size, 4, none⟩ (.slice A6 y.f4.length c6)) = v6 at vb2 vo hbs ra2 rb2 ⊢
              clear V5 V6 RA RB
              have V6 := Lib.hid vb2; have V5 := Lib.hid vo; have RA := Lib.hid ra2; have RB := Lib.hid rb2
              clear vb vb2 vo ra2 rb2 u0 u1 u2 u3 u4 z0 z1 z2 z3 z4
              refine hK.out _ _ ?_ (fun hHeld => ?_)
              · (try dsimp only); exact TreeFix.keep10 ⟨a0, a1, a2, a3, a4, b0, b1, b2, b3, b4, Below.refl _ _⟩ hbs
              clear hK K
              (try simp only [Act.put, List.getElem_toArray, List.getElem_cons_succ, List.getElem_cons_zero, List.setIfInBounds_toArray, List.set_cons_zero, List.set_cons_succ])
              refine wpAnyH_done (by kernel_rfl) ?_ _
              exact KEY v1.heap.size v2.heap.size A5 c5 A6 c6 v6 hbs V5.out V6.out (Kd.R_reads' RA.out).2.2 hc5 (Kd.R_reads' RB.out).2.2 hc6
          · (try simp only [List.getElem_toArray, List.getElem_cons_succ, List.getElem_cons_zero])
            go_simp
            have hb : Below v1.heap.size v1 (v1.alloc (Obj.cells #[.int .i64 0, .string ⟨#[]⟩, .int .i64 0, .int .i64 0, .slice none 0 0] 24)) := below_alloc (Below.refl _ _) _
            have vb : (v1.alloc (Obj.cells #[.int .i64 0, .string ⟨#[]⟩, .int .i64 0, .int .i64 0, .slice none 0 0] 24)).heap[v1.heap.size]? = some (Obj.cells #[.int .i64 0, .string ⟨#[]⟩, .int .i64 0, .int .i64 0, .slice none 0 0] 24) := blk_new _ _
            generalize (v1.alloc (Obj.cells #[.int .i64 0, .string ⟨#[]⟩, .int .i64 0, .int .i64 0, .slice none 0 0] 24)) = v2 at hb vb ⊢
            have n_ := Lib.hid (Kd.R_below RA.out hb)
            clear RA
            have RA := n_
            clear n_
            have V6 := Lib.hid vb
            have Z2 := Lib.hid hb.size
            have L6 := Lib.hid (blk_lt vb)
            clear vb
            refine hK.out _ _ ?_ (fun hHeld => ?_)
            · (try dsimp only); exact TreeFix.keep10 hHeld hb
            clear hK K
            (try simp only [Act.put, List.getElem_toArray, List.getElem_cons_succ, List.getElem_cons_zero, List.setIfInBounds_toArray, List.set_cons_zero, List.set_cons_succ])
            refine wpAnyH_ready (rs := [3, 4]) (by kernel_rfl) (by simp) ?_
            refine AllReadyH.cons rfl (fun K hK => ?_) (AllReadyH.cons rfl (fun K hK => ?_) (AllReadyH.nil))
            · (try simp only [List.getElem_toArray, List.getElem_cons_succ, List.getElem_cons_zero])
              go_simp
              refine (tree_Bare.calls qb b.f0 b.f1 b.f2 b.f3 Ab cb b.f4 y.f0 y.f1 y.f2 y.f3 y.f4 _ (Kd.C_below Cb.out hHeld.2.2.2.2.2.2.2.2.2.2) hlb Kb.out).mono ?_
              rintro e v3 ⟨v_, rfl, ra, hb⟩
              obtain ⟨A6, c6, rfl, hc6, _⟩ := Kd.R_reads ra
              have RB := Lib.hid (Kd.R_mono (Kd.R_bound ra) (fun k hk => (⟨hk.2.1, hk.2.2.1⟩ : v2.heap.size ≤ k ∧ k < v3.heap.size)))
              clear ra
              have n_ := Lib.hid (Kd.R_below RA.out hb)
              clear RA
              have RA := n_
              clear n_
              have n_ := Lib.hid (blk_below V6.out hb)
              clear V6
              have V6 := n_
              clear n_
              have Z3 := Lib.hid hb.size
              simp only []
              refine hK.out _ _ ?_ (fun hHeld => ?_)
              · (try dsimp only); exact TreeFix.keep10 hHeld hb
              clear hK K
              (try simp only [Act.put, List.getElem_toArray, List.getElem_cons_succ, List.getElem_cons_zero, List.setIfInBounds_toArray, List.set_cons_zero, List.set_cons_succ])
              refine wpAnyH_ready (rs := [4]) (by kernel_rfl) (by simp) ?_
              refine AllReadyH.cons rfl (fun K hK => ?_) (AllReadyH.nil)
              (try simp only [List.getElem_toArray, List.getElem_cons_succ, List.getElem_cons_zero])
              go_simp
              have hb : Below v3.heap.size v3 (v3.alloc (Obj.cells #[.int .i64 0, .string ⟨#[]⟩, .int .i64 0, .int .i64 0, .slice none 0 0] 24)) := below_alloc (Below.refl _ _) _
              have vb : (v3.alloc (Obj.cells #[.int .i64 0, .string ⟨#[]⟩, .int .i64 0, .int .i64 0, .slice none 0 0] 24)).heap[v3.heap.size]? = some (Obj.cells #[.int .i64 0, .string ⟨#[]⟩, .int .i64 0, .int .i64 0, .slice none 0 0] 24) := blk_new _ _
              generalize (v3.alloc (Obj.cells #[.int .i64 0, .string ⟨#[]⟩, .int .i64 0, .int .i64 0, .slice none 0 0] 24)) = v4 at hb vb ⊢
              have n_ := Lib.hid (Kd.R_below RA.out hb)
              clear RA
              have RA := n_
              clear n_
              have n_ := Lib.hid (blk_below V6.out hb)
              clear V6
              have V6 := n_
              clear n_
              have n_ := Lib.hid (Kd.R_below RB.out hb)
              clear RB
              have RB := n_
              clear n_
              have V5 := Lib.hid vb
              have Z4 := Lib.hid hb.size
              have L5 := Lib.hid (blk_lt vb)
              clear vb
              refine hK.out _ _ ?_ (fun hHeld => ?_)
              · (try dsimp only); exact TreeFix.keep10 hHeld hb
              clear hK K
              (try simp only [Act.put, List.getElem_toArray, List.getElem_cons_succ, List.getElem_cons_zero, List.setIfInBounds_toArray, List.set_cons_zero, List.set_cons_succ])
              have hge5 : w5.heap.size ≤ v3.heap.size := by have := Z1.out; have := Z2.out; have := L6.out; have := Z3.out; have := Z4.out; have := L5.out; omega
              have hge6 : w5.heap.size ≤ v1.heap.size := by have := Z1.out; have := Z2.out; have := L6.out; have := Z3.out; have := Z4.out; have := L5.out; omega
              have hne : v1.heap.size ≠ v3.heap.size := by have := Z1.out; have := Z2.out; have := L6.out; have := Z3.out; have := Z4.out; have := L5.out; omega
              have vb := V5.out
              have u0 := blk_cell vb 0
              have u1 := blk_cell vb 1
              have u2 := blk_cell vb 2
              have u3 := blk_cell vb 3
              have u4 := blk_cell vb 4
              simp only [List.getElem?_toArray, List.getElem?_cons_zero, List.getElem?_cons_succ] at u0 u1 u2 u3 u4
              have z0 := blk_frozen vb 0
              have z1 := blk_frozen vb 1
              have z2 := blk_frozen vb 2
              have z3 := blk_frozen vb 3
              have z4 := blk_frozen vb 4
              refine wpAnyH_ready (rs := [6]) (by kernel_rfl) (by simp) ?_
              refine AllReadyH.cons rfl (fun K hK => ?_) (AllReadyH.nil)
              (try simp only [List.getElem_toArray, List.getElem_cons_succ, List.getElem_cons_zero])
              go_simp
              have vb2 : (((((v4.setCell ⟨v3.heap.size, 0, none⟩ (.int .i64 x.f0)).setCell ⟨v3.heap.size, 1, none⟩ (.string x.f1)).setCell ⟨v3.heap.size, 2, none⟩ (.int .i64 x.f2)).setCell ⟨v3.heap.size, 3, none⟩ (.int .i64 x.f3)).setCell ⟨v3.heap.size, 4, none⟩ (.slice A5 x.f4.length c5)).heap[v3.heap.size]? = some (Obj.cells #[.int .i64 x.f0, .string x.f1, .int .i64 x.f2, .int .i64 x.f3, .slice A5 x.f4.length c5] 24) := (blk_put (blk_put (blk_put (blk_put (blk_put vb 0 (.int .i64 x.f0) rfl) 1 (.string x.f1) rfl) 2 (.int .i64 x.f2) rfl) 3 (.int .i64 x.f3) rfl) 4 (.slice A5 x.f4.length c5) rfl)
              have vo : (((((v4.setCell ⟨v3.heap.size, 0, none⟩ (.int .i64 x.f0)).setCell ⟨v3.heap.size, 1, none⟩ (.string x.f1)).setCell ⟨v3.heap.size, 2, none⟩ (.int .i64 x.f2)).setCell ⟨v3.heap.size, 3, none⟩ (.int .i64 x.f3)).setCell ⟨v3.heap.size, 4, none⟩ (.slice A5 x.f4.length c5)).heap[v1.heap.size]? = some (Obj.cells #[.int .i64 0, .string ⟨#[]⟩, .int .i64 0, .int .i64 0, .slice none 0 0] 24) := (blk_far (blk_far (blk_far (blk_far (blk_far V6.out (show v1.heap.size ≠ v3.heap.size from hne) _) (show v1.heap.size ≠ v3.heap.size from hne) _) (show v1.heap.size ≠ v3.heap.size from hne) _) (show v1.heap.size ≠ v3.heap.size from hne) _) (show v1.heap.size ≠ v3.heap.size from hne) _)
              have hbs : Below w5.heap.size w5 (((((v4.setCell ⟨v3.heap.size, 0, none⟩ (.int .i64 x.f0)).setCell ⟨v3.heap.size, 1, none⟩ (.string x.f1)).setCell ⟨v3.heap.size, 2, none⟩ (.int .i64 x.f2)).setCell ⟨v3.heap.size, 3, none⟩ (.int .i64 x.f3)).setCell ⟨v3.heap.size, 4, none⟩ (.slice A5 x.f4.length c5)) := (below_set (below_set (below_set (below_set (below_set hHeld.2.2.2.2.2.2.2.2.2.2 hge5) hge5) hge5) hge5) hge5)
              have ra2 : Kd.R k24 24 (((((v4.setCell ⟨v3.heap.size, 0, none⟩ (.int .i64 x.f0)).setCell ⟨v3.heap.size, 1, none⟩ (.string x.f1)).setCell ⟨v3.heap.size, 2, none⟩ (.int .i64 x.f2)).setCell ⟨v3.heap.size, 3, none⟩ (.int .i64 x.f3)).setCell ⟨v3.heap.size, 4, none⟩ (.slice A5 x.f4.length c5)) _ _ _ _ := (Kd.R_far (Kd.R_far (Kd.R_far (Kd.R_far (Kd.R_far RA.out (show ∀ k, _ → k ≠ v3.heap.size from fun k hk => by have := Z1.out; have := Z2.out; have := L6.out; have := Z3.out; have := Z4.out; have := L5.out; omega) _) (show ∀ k, _ → k ≠ v3.heap.size from fun k hk => by have := Z1.out; have := Z2.out; have := L6.out; have := Z3.out; have := Z4.out; have := L5.out; omega) _) (show ∀ k, _ → k ≠ v3.heap.size from fun k hk => by have := Z1.out; have := Z2.out; have := L6.out; have := Z3.out; have := Z4.out; have := L5.out; omega) _) (show ∀ k, _ → k ≠ v3.heap.size from fun k hk => by have := Z1.out; have := Z2.out; have := L6.out; have := Z3.out; have := Z4.out; have := L5.out; omega) _) (show ∀ k, _ → k ≠ v3.heap.size from fun k hk => by have := Z1.out; have := Z2.out; have := L6.out; have := Z3.out; have := Z4.out; have := L5.out; omega) _)
              have rb2 : Kd.R k24 24 (((((v4.setCell ⟨v3.heap.size, 0, none⟩ (.int .i64 x.f0)).setCell ⟨v3.heap.size, 1, none⟩ (.string x.f1)).setCell ⟨v3.heap.size, 2, none⟩ (.int .i64 x.f2)).setCell ⟨v3.heap.size, 3, none⟩ (.int .i64 x.f3)).setCell ⟨v3.heap.size, 4, none⟩ (.slice A5 x.f4.length c5)) _ _ _ _ := (Kd.R_far (Kd.R_far (Kd.R_far (Kd.R_far (Kd.R_far RB.out (show ∀ k, _ → k ≠ v3.heap.size from fun k hk => by have := Z1.out; have := Z2.out; have := L6.out; have := Z3.out; have := Z4.out; have := L5.out; omega) _) (show ∀ k, _ → k ≠ v3.heap.size from fun k hk => by have := Z1.out; have := Z2.out; have := L6.out; have := Z3.out; have := Z4.out; have := L5.out; omega) _) (show ∀ k, _ → k ≠ v3.heap.size from fun k hk => by have := Z1.out; have := Z2.out; have := L6.out; have := Z3.out; have := Z4.out; have := L5.out; omega) _) (show ∀ k, _ → k ≠ v3.heap.size from fun k hk => by have := Z1.out; have := Z2.out; have := L6.out; have := Z3.out; have := Z4.out; have := L5.out; omega) _) (show ∀ k, _ → k ≠ v3.heap.size from fun k hk => by have := Z1.out; have := Z2.out; have := L6.out; have := Z3.out; have := Z4.out; have := L5.out; omega) _)
              generalize (((((v4.setCell ⟨v3.heap.size, 0, none⟩ (.int .i64 x.f0)).setCell ⟨v3.heap.size, 1, none⟩ (.string x.f1)).setCell ⟨v3.heap.size, 2, none⟩ (.int .i64 x.f2)).setCell ⟨v3.heap.size, 3, none⟩ (.int .i64 x.f3)).setCell ⟨v3.heap.size, 4, none⟩ (.slice A5 x.f4.length c5)) = v5 at vb2 vo hbs ra2 rb2 ⊢
              clear V5 V6 RA RB
              have V5 := Lib.hid vb2; have V6 := Lib.hid vo; have RA := Lib.hid ra2; have RB := Lib.hid rb2
              clear vb vb2 vo ra2 rb2 u0 u1 u2 u3 u4 z0 z1 z2 z3 z4
              refine hK.out _ _ ?_ (fun hHeld => ?_)
              · (try dsimp only); exact TreeFix.keep10 ⟨a0, a1, a2, a3, a4, b0, b1, b2, b3, b4, Below.refl _ _⟩ hbs
              clear hK K
              (try simp only [Act.put, List.getElem_toArray, List.getElem_cons_succ, List.getElem_cons_zero, List.setIfInBounds_toArray, List.set_cons_zero, List.set_cons_succ])
              clear hbs
              have vb := V6.out
              have u0 := blk_cell vb 0
              have u1 := blk_cell vb 1
              have u2 := blk_cell vb 2
              have u3 := blk_cell vb 3
              have u4 := blk_cell vb 4
              simp only [List.getElem?_toArray, List.getElem?_cons_zero, List.getElem?_cons_succ] at u0 u1 u2 u3 u4
              have z0 := blk_frozen vb 0
              have z1 := blk_frozen vb 1
              have z2 := blk_frozen vb 2
              have z3 := blk_frozen vb 3
              have z4 := blk_frozen vb 4
              refine wpAnyH_ready (rs := [7]) (by kernel_rfl) (by simp) ?_
              refine AllReadyH.cons rfl (fun K hK => ?_) (AllReadyH.nil)
              (try simp only [List.getElem_toArray, List.getElem_cons_succ, List.getElem_cons_zero])
              go_simp
              have vb2 : (((((v5.setCell ⟨v1.heap.size, 0, none⟩ (.int .i64 y.f0)).setCell ⟨v1.heap.size, 1, none⟩ (.string y.f1)).setCell ⟨v1.heap.size, 2, none⟩ (.int .i64 y.f2)).setCell ⟨v1.heap.size, 3, none⟩ (.int .i64 y.f3)).setCell ⟨v1.heap.size, 4, none⟩ (.slice A6 y.f4.length c6)).heap[v1.heap.size]? = some (Obj.cells #[.int .i64 y.f0, .string y.f1, .int .i64 y.f2, .int .i64 y.f3, .slice A6 y.f4.length c6] 24) := (blk_put (blk_put (blk_put (blk_put (blk_put vb 0 (.int .i64 y.f0) rfl) 1 (.string y.f1) rfl) 2 (.int .i64 y.f2) rfl) 3 (.int .i64 y.f3) rfl) 4 (.slice A6 y.f4.length c6) rfl)
              have vo : (((((v5.setCell ⟨v1.heap.size, 0, none⟩ (.int .i64 y.f0)).setCell ⟨v1.heap.size, 1, none⟩ (.string y.f1)).setCell ⟨v1.heap.size, 2, none⟩ (.int .i64 y.f2)).setCell ⟨v1.heap.size, 3, none⟩ (.int .i64 y.f3)).setCell ⟨v1.heap.size, 4, none⟩ (.slice A6 y.f4.length c6)).heap[v3.heap.size]? = some (Obj.cells #[.int .i64 x.f0, .string x.f1, .int .i64 x.f2, .int .i64 x.f3, .slice A5 x.f4.length c5] 24) := (blk_far (blk_far (blk_far (blk_far (blk_far V5.out (show v3.heap.size ≠ v1.heap.size from (Ne.symm hne)) _) (show v3.heap.size ≠ v1.heap.size from (Ne.symm hne)) _) (show v3.heap.size ≠ v1.heap.size from (Ne.symm hne)) _) (show v3.heap.size ≠ v1.heap.size from (Ne.symm hne)) _) (show v3.heap.size ≠ v1.heap.size from (Ne.symm hne)) _)
              have hbs : Below w5.heap.size w5 (((((v5.setCell ⟨v1.heap.size, 0, none⟩ (.int .i64 y.f0)).setCell ⟨v1.heap.size, 1, none⟩ (.string y.f1)).setCell ⟨v1.heap.size, 2, none⟩ (.int .i64 y.f2)).setCell ⟨v1.heap.size, 3, none⟩ (.int .i64 y.f3)).setCell ⟨v1.heap.size, 4, none⟩ (.slice A6 y.f4.length c6)) := (below_set (below_set (below_set (below_set (below_set hHeld.2.2.2.2.2.2.2.2.2.2 hge6) hge6) hge6) hge6) hge6)
              have ra2 : Kd.R k24 24 (((((v5.setCell ⟨v1.heap.size, 0, none⟩ (.int .i64 y.f0)).setCell ⟨v1.heap.size, 1, none⟩ (.string y.f1)).setCell ⟨v1.heap.size, 2, none⟩ (.int .i64 y.f2)).setCell ⟨v1.heap.size, 3, none⟩ (.int .i64 y.f3)).setCell ⟨v1.heap.size, 4, none⟩ (.slice A6 y.f4.length c6)) _ _ _ _ := (Kd.R_far (Kd.R_far (Kd.R_far (Kd.R_far (Kd.R_far RA.out (show ∀ k, _ → k ≠ v1.heap.size from fun k hk => by have := Z1.out; have := Z2.out; have := L6.out; have := Z3.out; have := Z4.out; have := L5.out; omega) _) (show ∀ k, _ → k ≠ v1.heap.size from fun k hk => by have := Z1.out; have := Z2.out; have := L6.out; have := Z3.out; have := Z4.out; have := L5.out; omega) _) (show ∀ k, _ → k ≠ v1.heap.size from fun k hk => by have := Z1.out; have := Z2.out; have := L6.out; have := Z3.out; have := Z4.out; have := L5.out; omega) _) (show ∀ k, _ → k ≠ v1.heap.size from fun k hk => by have := Z1.out; have := Z2.out; have := L6.out; have := Z3.out; have := Z4.out; have := L5.out; omega) _) (show ∀ k, _ → k ≠ v1.heap.size from fun k hk => by have := Z1.out; have := Z2.out; have := L6.out; have := Z3.out; have := Z4.out; have := L5.out; omega) _)
              have rb2 : Kd.R k24 24 (((((v5.setCell ⟨v1.heap.size, 0, none⟩ (.int .i64 y.f0)).setCell ⟨v1.heap.size, 1, none⟩ (.string y.f1)).setCell ⟨v1.heap.size, 2, none⟩ (.int .i64 y.f2)).setCell ⟨v1.heap.size, 3, none⟩ (.int .i64 y.f3)).setCell ⟨v1.heap.size, 4, none⟩ (.slice A6 y.f4.length c6)) _ _ _ _ := (Kd.R_far (Kd.R_far (Kd.R_far (Kd.R_far (Kd.R_far RB.out (show ∀ k, _ → k ≠ v1.heap.size from fun k hk => by have := Z1.out; have := Z2.out; have := L6.out; have := Z3.out; have := Z4.out; have := L5.out; omega) _) (show ∀ k, _ → k ≠ v1.heap.size from fun k hk => by have := Z1.out; have := Z2.out; have := L6.out; have := Z3.out; have := Z4.out; have := L5.out; omega) _) (show ∀ k, _ → k ≠ v1.heap.size from fun k hk => by have := Z1.out; have := Z2.out; have := L6.out; have := Z3.out; have := Z4.out; have := L5.out; omega) _) (show ∀ k, _ → k ≠ v1.heap.size from fun k hk => by have := Z1.out; have := Z2.out; have := L6.out; have := Z3.out; have := Z4.out; have := L5.out; omega) _) (show ∀ k, _ → k ≠ v1.heap.size from fun k hk => by have := Z1.out; have := Z2.out; have := L6.out; have := Z3.out; have := Z4.out; have := L5.out; omega) _)
              generalize (((((v5.setCell ⟨v1.heap.size, 0, none⟩ (.int .i64 y.f0)).setCell ⟨v1.heap.size, 1, none⟩ (.string y.f1)).setCell ⟨v1.heap.size, 2, none⟩ (.int .i64 y.f2)).setCell ⟨v1.heap.size, 3, none⟩ (.int .i64 y.f3)).setCell ⟨v1.heap.size, 4, none⟩ (.slice A6 y.f4.length c6)) = v6 at vb2 vo hbs ra2 rb2 ⊢
              clear V5 V6 RA RB
              have V6 := Lib.hid vb2; have V5 := Lib.hid vo; have RA := Lib.hid ra2; have RB := Lib.hid rb2
              clear vb vb2 vo ra2 rb2 u0 u1 u2 u3 u4 z0 z1 z2 z3 z4
              refine hK.out _ _ ?_ (fun hHeld => ?_)
              · (try dsimp only); exact TreeFix.keep10 ⟨a0, a1, a2, a3, a4, b0, b1, b2, b3, b4, Below.refl _ _⟩ hbs
              clear hK K
              (try simp only [Act.put, List.getElem_toArray, List.getElem_cons_succ, List.getElem_cons_zero, List.setIfInBounds_toArray, List.set_cons_zero, List.set_cons_succ])
              refine wpAnyH_done (by kernel_rfl) ?_ _
              exact KEY v3.heap.size v1.heap.size A5 c5 A6 c6 v6 hbs V5.out V6.out (Kd.R_reads' RA.out).2.2 hc5 (Kd.R_reads' RB.out).2.2 hc6
            · (try simp only [List.getElem_toArray, List.getElem_cons_succ, List.getElem_cons_zero])
              go_simp
              have hb : Below v2.heap.size v2 (v2.alloc (Obj.cells #[.int .i64 0, .string ⟨#[]⟩, .int .i64 0, .int .i64 0, .slice none 0 0] 24)) := below_alloc (Below.refl _ _) _
              have vb : (v2.alloc (Obj.cells #[.int .i64 0, .string ⟨#[]⟩, .int .i64 0, .int .i64 0, .slice none 0 0] 24)).heap[v2.heap.size]? = some (Obj.cells #[.int .i64 0, .string ⟨#[]⟩, .int .i64 0, .int .i64 0, .slice none 0 0] 24) := blk_new _ _
              generalize (v2.alloc (Obj.cells #[.int .i64 0, .string ⟨#[]⟩, .int .i64 0, .int .i64 0, .slice none 0 0] 24)) = v3 at hb vb ⊢
              have n_ := Lib.hid (Kd.R_below RA.out hb)
              clear RA
              have RA := n_
              clear n_
              have n_ := Lib.hid (blk_below V6.out hb)
              clear V6
              have V6 := n_
              clear n_
              have V5 := Lib.hid vb
              have Z3 := Lib.hid hb.size
              have L5 := Lib.hid (blk_lt vb)
              clear vb
              refine hK.out _ _ ?_ (fun hHeld => ?_)
              · (try dsimp only); exact TreeFix.keep10 hHeld hb
              clear hK K
              (try simp only [Act.put, List.getElem_toArray, List.getElem_cons_succ, List.getElem_cons_zero, List.setIfInBounds_toArray, List.set_cons_zero, List.set_cons_succ])
              refine wpAnyH_ready (rs := [3]) (by kernel_rfl) (by simp) ?_
              refine AllReadyH.cons rfl (fun K hK => ?_) (AllReadyH.nil)
              (try simp only [List.getElem_toArray, List.getElem_cons_succ, List.getElem_cons_zero])
              go_simp
              refine (tree_Bare.calls qb b.f0 b.f1 b.f2 b.f3 Ab cb b.f4 y.f0 y.f1 y.f2 y.f3 y.f4 _ (Kd.C_below Cb.out hHeld.2.2.2.2.2.2.2.2.2.2) hlb Kb.out).mono ?_
              rintro e v4 ⟨v_, rfl, ra, hb⟩
              obtain ⟨A6, c6, rfl, hc6, _⟩ := Kd.R_reads ra
              have RB := Lib.hid (Kd.R_mono (Kd.R_bound ra) (fun k hk => (⟨hk.2.1, hk.2.2.1⟩ : v3.heap.size ≤ k ∧ k < v4.heap.size)))
              clear ra
              have n_ := Lib.hid (Kd.R_below RA.out hb)
              clear RA
              have RA := n_
              clear n_
              have n_ := Lib.hid (blk_below V6.out hb)
              clear V6
              have V6 := n_
              clear n_
              have n_ := Lib.hid (blk_below V5.out hb)
              clear V5
              have V5 := n_
              clear n_
              have Z4 := Lib.hid hb.size
              simp only []
              refine hK.out _ _ ?_ (fun hHeld => ?_)
              · (try dsimp only); exact TreeFix.keep10 hHeld hb
              clear hK K
              (try simp only [Act.put, List.getElem_toArray, List.getElem_cons_succ, List.getElem_cons_zero, List.setIfInBounds_toArray, List.set_cons_zero, List.set_cons_succ])
              have hge5 : w5.heap.size ≤ v2.heap.size := by have := Z1.out; have := Z2.out; have := L6.out; have := Z3.out; have := L5.out; have := Z4.out; omega
              have hge6 : w5.heap.size ≤ v1.heap.size := by have := Z1.out; have := Z2.out; have := L6.out; have := Z3.out; have := L5.out; have := Z4.out; omega
              have hne : v1.heap.size ≠ v2.heap.size := by have := Z1.out; have := Z2.out; have := L6.out; have := Z3.out; have := L5.out; have := Z4.out; omega
              have vb := V5.out
              have u0 := blk_cell vb 0
              have u1 := blk_cell vb 1
              have u2 := blk_cell vb 2
              have u3 := blk_cell vb 3
              have u4 := blk_cell vb 4
              simp only [List.getElem?_toArray, List.getElem?_cons_zero, List.getElem?_cons_succ] at u0 u1 u2 u3 u4
              have z0 := blk_frozen vb 0
              have z1 := blk_frozen vb 1
              have z2 := blk_frozen vb 2
              have z3 := blk_frozen vb 3
              have z4 := blk_frozen vb 4
              refine wpAnyH_ready (rs := [6]) (by kernel_rfl) (by simp) ?_
              refine AllReadyH.cons rfl (fun K hK => ?_) (AllReadyH.nil)
              (try simp only [List.getElem_toArray, List.getElem_cons_succ, List.getElem_cons_zero])
              go_simp
              have vb2 : (((((v4.setCell ⟨v2.heap.size, 0, none⟩ (.int .i64 x.f0)).setCell ⟨v2.heap.size, 1, none⟩ (.string x.f1)).setCell ⟨v2.heap.size, 2, none⟩ (.int .i64 x.f2)).setCell ⟨v2.heap.size, 3, none⟩ (.int .i64 x.f3)).setCell ⟨v2.heap.size, 4, none⟩ (.slice A5 x.f4.length c5)).heap[v2.heap.size]? = some (Obj.cells #[.int .i64 x.f0, .string x.f1, .int .i64 x.f2, .int .i64 x.f3, .slice A5 x.f4.length c5] 24) := (blk_put (blk_put (blk_put (blk_put (blk_put vb 0 (.int .i64 x.f0) rfl) 1 (.string x.f1) rfl) 2 (.int .i64 x.f2) rfl) 3 (.int .i64 x.f3) rfl) 4 (.slice A5 x.f4.length c5) rfl)
              have vo : (((((v4.setCell ⟨v2.heap.size, 0, none⟩ (.int .i64 x.f0)).setCell ⟨v2.heap.size, 1, none⟩ (.string x.f1)).setCell ⟨v2.heap.size, 2, none⟩ (.int .i64 x.f2)).setCell ⟨v2.heap.size, 3, none⟩ (.int .i64 x.f3)).setCell ⟨v2.heap.size, 4, none⟩ (.slice A5 x.f4.length c5)).heap[v1.heap.size]? = some (Obj.cells #[.int .i64 0, .string ⟨#[]⟩, .int .i64 0, .int .i64 0, .slice none 0 0] 24) := (blk_far (blk_far (blk_far (blk_far (blk_far V6.out (show v1.heap.size ≠ v2.heap.size from hne) _) (show v1.heap.size ≠ v2.heap.size from hne) _) (show v1.heap.size ≠ v2.heap.size from hne) _) (show v1.heap.size ≠ v2.heap.size from hne) _) (show v1.heap.size ≠ v2.heap.size from hne) _)
              have hbs : Below w5.heap.size w5 (((((v4.setCell ⟨v2.heap.size, 0, none⟩ (.int .i64 x.f0)).setCell ⟨v2.heap.size, 1, none⟩ (.string x.f1)).setCell ⟨v2.heap.size, 2, none⟩ (.int .i64 x.f2)).setCell ⟨v2.heap.size, 3, none⟩ (.int .i64 x.f3)).setCell ⟨v2.heap.size, 4, none⟩ (.slice A5 x.f4.length c5)) := (below_set (below_set (below_set (below_set (below_set hHeld.2.2.2.2.2.2.2.2.2.2 hge5) hge5) hge5) hge5) hge5)
              have ra2 : Kd.R k24 24 (((((v4.setCell ⟨v2.heap.size, 0, none⟩ (.int .i64 x.f0)).setCell ⟨v2.heap.size, 1, none⟩ (.string x.f1)).setCell ⟨v2.heap.size, 2, none⟩ (.int .i64 x.f2)).setCell ⟨v2.heap.size, 3, none⟩ (.int .i64 x.f3)).setCell ⟨v2.heap.size, 4, none⟩ (.slice A5 x.f4.length c5)) _ _ _ _ := (Kd.R_far (Kd.R_far (Kd.R_far (Kd.R_far (Kd.R_far RA.out (show ∀ k, _ → k ≠ v2.heap.size from fun k hk => by have := Z1.out; have := Z2.out; have := L6.out; have := Z3.out; have := L5.out; have := Z4.out; omega) _) (show ∀ k, _ → k ≠ v2.heap.size from fun k hk => by have := Z1.out; have := Z2.out; have := L6.out; have := Z3.out; have := L5.out; have := Z4.out; omega) _) (show ∀ k, _ → k ≠ v2.heap.size from fun k hk => by have := Z1.out; have := Z2.out; have := L6.out; have := Z3.out; have := L5.out; have := Z4.out; omega) _) (show ∀ k, _ → k ≠ v2.heap.size from fun k hk => by have := Z1.out; have := Z2.out; have := L6.out; have := Z3.out; have := L5.out; have := Z4.out; omega) _) (show ∀ k, _ → k ≠ v2.heap.size from fun k hk => by have := Z1.out; have := Z2.out; have := L6.out; have := Z3.out; have := L5.out; have := Z4.out; omega) _)
              have rb2 : Kd.R k24 24 (((((v4.setCell ⟨v2.heap.size, 0, none⟩ (.int .i64 x.f0)).setCell ⟨v2.heap.size, 1, none⟩ (.string x.f1)).setCell ⟨v2.heap.size, 2, none⟩ (.int .i64 x.f2)).setCell ⟨v2.heap.size, 3, none⟩ (.int .i64 x.f3)).setCell ⟨v2.heap.size, 4, none⟩ (.slice A5 x.f4.length c5)) _ _ _ _ := (Kd.R_far (Kd.R_far (Kd.R_far (Kd.R_far (Kd.R_far RB.out (show ∀ k, _ → k ≠ v2.heap.size from fun k hk => by have := Z1.out; have := Z2.out; have := L6.out; have := Z3.out; have := L5.out; have := Z4.out; omega) _) (show ∀ k, _ → k ≠ v2.heap.size from fun k hk => by have := Z1.out; have := Z2.out; have := L6.out; have := Z3.out; have := L5.out; have := Z4.out; omega) _) (show ∀ k, _ → k ≠ v2.heap.size from fun k hk => by have := Z1.out; have := Z2.out; have := L6.out; have := Z3.out; have := L5.out; have := Z4.out; omega) _) (show ∀ k, _ → k ≠ v2.heap.size from fun k hk => by have := Z1.out; have := Z2.out; have := L6.out; have := Z3.out; have := L5.out; have := Z4.out; omega) _) (show ∀ k, _ → k ≠ v2.heap.size from fun k hk => by have := Z1.out; have := Z2.out; have := L6.out; have := Z3.out; have := L5.out; have := Z4.out; omega) _)
              generalize (((((v4.setCell ⟨v2.heap.size, 0, none⟩ (.int .i64 x.f0)).setCell ⟨v2.heap.size, 1, none⟩ (.string x.f1)).setCell ⟨v2.heap.size, 2, none⟩ (.int .i64 x.f2)).setCell ⟨v2.heap.size, 3, none⟩ (.int .i64 x.f3)).setCell ⟨v2.heap.size, 4, none⟩ (.slice A5 x.f4.length c5)) = v5 at vb2 vo hbs ra2 rb2 ⊢
              clear V5 V6 RA RB
              have V5 := Lib.hid vb2; have V6 := Lib.hid vo; have RA := Lib.hid ra2; have RB := Lib.hid rb2
              clear vb vb2 vo ra2 rb2 u0 u1 u2 u3 u4 z0 z1 z2 z3 z4
              refine hK.out _ _ ?_ (fun hHeld => ?_)
              · (try dsimp only); exact TreeFix.keep10 ⟨a0, a1, a2, a3, a4, b0, b1, b2, b3, b4, Below.refl _ _⟩ hbs
              clear hK K
              (try simp only [Act.put, List.getElem_toArray, List.getElem_cons_succ, List.getElem_cons_zero, List.setIfInBounds_toArray, List.set_cons_zero, List.set_cons_succ])
              clear hbs
              have vb := V6.out
              have u0 := blk_cell vb 0
              have u1 := blk_cell vb 1
              have u2 := blk_cell vb 2
              have u3 := blk_cell vb 3
              have u4 := blk_cell vb 4
              simp only [List.getElem?_toArray, List.getElem?_cons_zero, List.getElem?_cons_succ] at u0 u1 u2 u3 u4
              have z0 := blk_frozen vb 0
              have z1 := blk_frozen vb 1
              have z2 := blk_frozen vb 2
              have z3 := blk_frozen vb 3
              have z4 := blk_frozen vb 4
              refine wpAnyH_ready (rs := [7]) (by kernel_rfl) (by simp) ?_
              refine AllReadyH.cons rfl (fun K hK => ?_) (AllReadyH.nil)
              (try simp only [List.getElem_toArray, List.getElem_cons_succ, List.getElem_cons_zero])
              go_simp
              have vb2 : (((((v5.setCell ⟨v1.heap.size, 0, none⟩ (.int .i64 y.f0)).setCell ⟨v1.heap.size, 1, none⟩ (.string y.f1)).setCell ⟨v1.heap.size, 2, none⟩ (.int .i64 y.f2)).setCell ⟨v1.heap.size, 3, none⟩ (.int .i64 y.f3)).setCell ⟨v1.heap.size, 4, none⟩ (.slice A6 y.f4.length c6)).heap[v1.heap.size]? = some (Obj.cells #[.int .i64 y.f0, .string y.f1, .int .i64 y.f2, .int .i64 y.f3, .slice A6 y.f4.length c6] 24) := (blk_put (blk_put (blk_put (blk_put (blk_put vb 0 (.int .i64 y.f0) rfl) 1 (.string y.f1) rfl) 2 (.int .i64 y.f2) rfl) 3 (.int .i64 y.f3) rfl) 4 (.slice A6 y.f4.length c6) rfl)
              have vo : (((((v5.setCell ⟨v1.heap.size, 0, none⟩ (.int .i64 y.f0)).setCell ⟨v1.heap.size, 1, none⟩ (.string y.f1)).setCell ⟨v1.heap.size, 2, none⟩ (.int .i64 y.f2)).setCell ⟨v1.heap.size, 3, none⟩ (.int .i64 y.f3)).setCell ⟨v1.heap.size, 4, none⟩ (.slice A6 y.f4.length c6)).heap[v2.heap.size]? = some (Obj.cells #[.int .i64 x.f0, .string x.f1, .int .i64 x.f2, .int .i64 x.f3, .slice A5 x.f4.length c5] 24) := (blk_far (blk_far (blk_far (blk_far (blk_far V5.out (show v2.heap.size ≠ v1.heap.size from (Ne.symm hne)) _) (show v2.heap.size ≠ v1.heap.size from (Ne.symm hne)) _) (show v2.heap.size ≠ v1.heap.size from (Ne.symm hne)) _) (show v2.heap.size ≠ v1.heap.size from (Ne.symm hne)) _) (show v2.heap.size ≠ v1.heap.size from (Ne.symm hne)) _)
              have hbs : Below w5.heap.size w5 (((((v5.setCell ⟨v1.heap.size, 0, none⟩ (.int .i64 y.f0)).setCell ⟨v1.heap.size, 1, none⟩ (.string y.f1)).setCell ⟨v1.heap.size, 2, none⟩ (.int .i64 y.f2)).setCell ⟨v1.heap.size, 3, none⟩ (.int .i64 y.f3)).setCell ⟨v1.heap.size, 4, none⟩ (.slice A6 y.f4.length c6)) := (below_set (below_set (below_set (below_set (below_set hHeld.2.2.2.2.2.2.2.2.2.2 hge6) hge6) hge6) hge6) hge6)
              have ra2 : Kd.R k24 24 (((((v5.setCell ⟨v1.heap.size, 0, none⟩ (.int .i64 y.f0)).setCell ⟨v1.heap.size, 1, none⟩ (.string y.f1)).setCell ⟨v1.heap.size, 2, none⟩ (.int .i64 y.f2)).setCell ⟨v1.heap.size, 3, none⟩ (.int .i64 y.f3)).setCell ⟨v1.heap.size, 4, none⟩ (.slice A6 y.f4.length c6)) _ _ _ _ := (Kd.R_far (Kd.R_far (Kd.R_far (Kd.R_far (Kd.R_far RA.out (show ∀ k, _ → k ≠ v1.heap.size from fun k hk => by have := Z1.out; have := Z2.out; have := L6.out; have := Z3.out; have := L5.out; have := Z4.out; omega) _) (show ∀ k, _ → k ≠ v1.heap.size from fun k hk => by have := Z1.out; have := Z2.out; have := L6.out; have := Z3.out; have := L5.out; have := Z4.out; omega) _) (show ∀ k, _ → k ≠ v1.heap.size from fun k hk => by have := Z1.out; have := Z2.out; have := L6.out; have := Z3.out; have := L5.out; have := Z4.out; omega) _) (show ∀ k, _ → k ≠ v1.heap.size from fun k hk => by have := Z1.out; have := Z2.out; have := L6.out; have := Z3.out; have := L5.out; have := Z4.out; omega) _) (show ∀ k, _ → k ≠ v1.heap.size from fun k hk => by have := Z1.out; have := Z2.out; have := L6.out; have := Z3.out; have := L5.out; have := Z4.out; omega) _)
              have rb2 : Kd.R k24 24 (((((v5.setCell ⟨v1.heap.size, 0, none⟩ (.int .i64 y.f0)).setCell ⟨v1.heap.size, 1, none⟩ (.string y.f1)).setCell ⟨v1.heap.size, 2, none⟩ (.int .i64 y.f2)).setCell ⟨v1.heap.size, 3, none⟩ (.int .i64 y.f3)).setCell ⟨v1.heap.size, 4, none⟩ (.slice A6 y.f4.length c6)) _ _ _ _ := (Kd.R_far (Kd.R_far (Kd.R_far (Kd.R_far (Kd.R_far RB.out (show ∀ k, _ → k ≠ v1.heap.size from fun k hk => by have := Z1.out; have := Z2.out; have := L6.out; have := Z3.out; have := L5.out; have := Z4.out; omega) _) (show ∀ k, _ → k ≠ v1.heap.size from fun k hk => by have := Z1.out; have := Z2.out; have := L6.out; have := Z3.out; have := L5.out; have := Z4.out; omega) _) (show ∀ k, _ → k ≠ v1.heap.size from fun k hk => by have := Z1.out; have := Z2.out; have := L6.out; have := Z3.out; have := L5.out; have := Z4.out; omega) _) (show ∀ k, _ → k ≠ v1.heap.size from fun k hk => by have := Z1.out; have := Z2.out; have := L6.out; have := Z3.out; have := L5.out; have := Z4.out; omega) _) (show ∀ k, _ → k ≠ v1.heap.size from fun k hk => by have := Z1.out; have := Z2.out; have := L6.out; have := Z3.out; have := L5.out; have := Z4.out; omega) _)
              generalize (((((v5.setCell ⟨v1.heap.size, 0, none⟩ (.int .i64 y.f0)).setCell ⟨v1.heap.size, 1, none⟩ (.string y.f1)).setCell ⟨v1.heap.size, 2, none⟩ (.int .i64 y.f2)).setCell ⟨v1.heap.size, 3, none⟩ (.int .i64 y.f3)).setCell ⟨v1.heap.size, 4, none⟩ (.slice A6 y.f4.length c6)) = v6 at vb2 vo hbs ra2 rb2 ⊢
              clear V5 V6 RA RB
              have V6 := Lib.hid vb2; have V5 := Lib.hid vo; have RA := Lib.hid ra2; have RB := Lib.hid rb2
              clear vb vb2 vo ra2 rb2 u0 u1 u2 u3 u4 z0 z1 z2 z3 z4
              refine hK.out _ _ ?_ (fun hHeld => ?_)
              · (try dsimp only); exact TreeFix.keep10 ⟨a0, a1, a2, a3, a4, b0, b1, b2, b3, b4, Below.refl _ _⟩ hbs
              clear hK K
              (try simp only [Act.put, List.getElem_toArray, List.getElem_cons_succ, List.getElem_cons_zero, List.setIfInBounds_toArray, List.set_cons_zero, List.set_cons_succ])
              refine wpAnyH_done (by kernel_rfl) ?_ _
              exact KEY v2.heap.size v1.heap.size A5 c5 A6 c6 v6 hbs V5.out V6.out (Kd.R_reads' RA.out).2.2 hc5 (Kd.R_reads' RB.out).2.2 hc6
        · (try simp only [List.getElem_toArray, List.getElem_cons_succ, List.getElem_cons_zero])
          go_simp
          have hb : Below w5.drew.heap.size w5.drew (w5.alloc (Obj.cells #[.int .i64 0, .string ⟨#[]⟩, .int .i64 0, .int .i64 0, .slice none 0 0] 24)).drew := below_alloc (Below.refl _ _) _
          have vb : (w5.alloc (Obj.cells #[.int .i64 0, .string ⟨#[]⟩, .int .i64 0, .int .i64 0, .slice none 0 0] 24)).drew.heap[w5.heap.size]? = some (Obj.cells #[.int .i64 0, .string ⟨#[]⟩, .int .i64 0, .int .i64 0, .slice none 0 0] 24) := blk_new _ _
          generalize (w5.alloc (Obj.cells #[.int .i64 0, .string ⟨#[]⟩, .int .i64 0, .int .i64 0, .slice none 0 0] 24)).drew = v1 at hb vb ⊢
          have V5 := Lib.hid vb
          have Z1 := Lib.hid hb.size
          change Hid (w5.heap.size ≤ _) at Z1
          have L5 := Lib.hid (blk_lt vb)
          clear vb
          refine hK.out _ _ ?_ (fun hHeld => ?_)
          · (try dsimp only); exact TreeFix.keep10 hHeld hb
          clear hK K
          (try simp only [Act.put, List.getElem_toArray, List.getElem_cons_succ, List.getElem_cons_zero, List.setIfInBounds_toArray, List.set_cons_zero, List.set_cons_succ])
          refine wpAnyH_ready (rs := [1, 5]) (by kernel_rfl) (by simp) ?_
          refine AllReadyH.cons rfl (fun K hK => ?_) (AllReadyH.cons rfl (fun K hK => ?_) (AllReadyH.nil))
          · (try simp only [List.getElem_toArray, List.getElem_cons_succ, List.getElem_cons_zero])
            go_simp
            refine (tree_Bare.calls qa a.f0 a.f1 a.f2 a.f3 Aa ca a.f4 x.f0 x.f1 x.f2 x.f3 x.f4 _ (Kd.C_below Ca.out hHeld.2.2.2.2.2.2.2.2.2.2) hla Ka.out).mono ?_
            rintro e v2 ⟨v_, rfl, ra, hb⟩
            obtain ⟨A5, c5, rfl, hc5, _⟩ := Kd.R_reads ra
            have RA := Lib.hid (Kd.R_mono (Kd.R_bound ra) (fun k hk => (⟨hk.2.1, hk.2.2.1⟩ : v1.heap.size ≤ k ∧ k < v2.heap.size)))
            clear ra
            have n_ := Lib.hid (blk_below V5.out hb)
            clear V5
            have V5 := n_
            clear n_
            have Z2 := Lib.hid hb.size
            simp only []
            refine hK.out _ _ ?_ (fun hHeld => ?_)
            · (try dsimp only); exact TreeFix.keep10 hHeld hb
            clear hK K
            (try simp only [Act.put, List.getElem_toArray, List.getElem_cons_succ, List.getElem_cons_zero, List.setIfInBounds_toArray, List.set_cons_zero, List.set_cons_succ])
            refine wpAnyH_ready (rs := [3, 5]) (by kernel_rfl) (by simp) ?_
            refine AllReadyH.cons rfl (fun K hK => ?_) (AllReadyH.cons rfl (fun K hK => ?_) (AllReadyH.nil))
            · (try simp only [List.getElem_toArray, List.getElem_cons_succ, List.getElem_cons_zero])
              go_simp
              refine (tree_Bare.calls qb b.f0 b.f1 b.f2 b.f3 Ab cb b.f4 y.f0 y.f1 y.f2 y.f3 y.f4 _ (Kd.C_below Cb.out hHeld.2.2.2.2.2.2.2.2.2.2) hlb Kb.out).mono ?_
              rintro e v3 ⟨v_, rfl, ra, hb⟩
              obtain ⟨A6, c6, rfl, hc6, _⟩ := Kd.R_reads ra
              have RB := Lib.hid (Kd.R_mono (Kd.R_bound ra) (fun k hk => (⟨hk.2.1, hk.2.2.1⟩ : v2.heap.size ≤ k ∧ k < v3.heap.size)))
              clear ra
              have n_ := Lib.hid (Kd.R_below RA.out hb)
              clear RA
              have RA := n_
              clear n_
              have n_ := Lib.hid (blk_below V5.out hb)
              clear V5
              have V5 := n_
              clear n_
              have Z3 := Lib.hid hb.size
              simp only []
              refine hK.out _ _ ?_ (fun hHeld => ?_)
              · (try dsimp only); exact TreeFix.keep10 hHeld hb
              clear hK K
              (try simp only [Act.put, List.getElem_toArray, List.getElem_cons_succ, List.getElem_cons_zero, List.setIfInBounds_toArray, List.set_cons_zero, List.set_cons_succ])
              refine wpAnyH_ready (rs := [5]) (by kernel_rfl) (by simp) ?_
              refine AllReadyH.cons rfl (fun K hK => ?_) (AllReadyH.nil)
              (try simp only [List.getElem_toArray, List.getElem_cons_succ, List.getElem_cons_zero])
              go_simp
              have hb : Below v3.heap.size v3 (v3.alloc (Obj.cells #[.int .i64 0, .string ⟨#[]⟩, .int .i64 0, .int .i64 0, .slice none 0 0] 24)) := below_alloc (Below.refl _ _) _
              have vb : (v3.alloc (Obj.cells #[.int .i64 0, .string ⟨#[]⟩, .int .i64 0, .int .i64 0, .slice none 0 0] 24)).heap[v3.heap.size]? = some (Obj.cells #[.int .i64 0, .string ⟨#[]⟩, .int .i64 0, .int .i64 0, .slice none 0 0] 24) := blk_new _ _
              generalize (v3.alloc (Obj.cells #[.int .i64 0, .string ⟨#[]⟩, .int .i64 0, .int .i64 0, .slice none 0 0] 24)) = v4 at hb vb ⊢
              have n_ := Lib.hid (Kd.R_below RA.out hb)
              clear RA
              have RA := n_
              clear n_
              have n_ := Lib.hid (blk_below V5.out hb)
              clear V5
              have V5 := n_
              clear n_
              have n_ := Lib.hid (Kd.R_below RB.out hb)
              clear RB
              have RB := n_
              clear n_
              have V6 := Lib.hid vb
              have Z4 := Lib.hid hb.size
              have L6 := Lib.hid (blk_lt vb)
              clear vb
              refine hK.out _ _ ?_ (fun hHeld => ?_)
              · (try dsimp only); exact TreeFix.keep10 hHeld hb
              clear hK K
              (try simp only [Act.put, List.getElem_toArray, List.getElem_cons_succ, List.getElem_cons_zero, List.setIfInBounds_toArray, List.set_cons_zero, List.set_cons_succ])
              have hge5 : w5.heap.size ≤ w5.heap.size := by have := Z1.out; have := L5.out; have := Z2.out; have := Z3.out; have := Z4.out; have := L6.out; omega
              have hge6 : w5.heap.size ≤ v3.heap.size := by have := Z1.out; have := L5.out; have := Z2.out; have := Z3.out; have := Z4.out; have := L6.out; omega
              have hne : v3.heap.size ≠ w5.heap.size := by have := Z1.out; have := L5.out; have := Z2.out; have := Z3.out; have := Z4.out; have := L6.out; omega
              have vb := V5.out
              have u0 := blk_cell vb 0
              have u1 := blk_cell vb 1
              have u2 := blk_cell vb 2
              have u3 := blk_cell vb 3
              have u4 := blk_cell vb 4
              simp only [List.getElem?_toArray, List.getElem?_cons_zero, List.getElem?_cons_succ] at u0 u1 u2 u3 u4
              have z0 := blk_frozen vb 0
              have z1 := blk_frozen vb 1
              have z2 := blk_frozen vb 2
              have z3 := blk_frozen vb 3
              have z4 := blk_frozen vb 4
              refine wpAnyH_ready (rs := [6]) (by kernel_rfl) (by simp) ?_
              refine AllReadyH.cons rfl (fun K hK => ?_) (AllReadyH.nil)
              (try simp only [List.getElem_toArray, List.getElem_cons_succ, List.getElem_cons_zero])
              go_simp
              have vb2 : (((((v4.setCell ⟨w5.heap.size, 0, none⟩ (.int .i64 x.f0)).setCell ⟨w5.heap.size, 1, none⟩ (.string x.f1)).setCell ⟨w5.heap.size, 2, none⟩ (.int .i64 x.f2)).setCell ⟨w5.heap.size, 3, none⟩ (.int .i64 x.f3)).setCell ⟨w5.heap.size, 4, none⟩ (.slice A5 x.f4.length c5)).heap[w5.heap.size]? = some (Obj.cells #[.int .i64 x.f0, .string x.f1, .int .i64 x.f2, .int .i64 x.f3, .slice A5 x.f4.length c5] 24) := (blk_put (blk_put (blk_put (blk_put (blk_put vb 0 (.int .i64 x.f0) rfl) 1 (.string x.f1) rfl) 2 (.int .i64 x.f2) rfl) 3 (.int .i64 x.f3) rfl) 4 (.slice A5 x.f4.length c5) rfl)
              have vo : (((((v4.setCell ⟨w5.heap.size, 0, none⟩ (.int .i64 x.f0)).setCell ⟨w5.heap.size, 1, none⟩ (.string x.f1)).setCell ⟨w5.heap.size, 2, none⟩ (.int .i64 x.f2)).setCell ⟨w5.heap.size, 3, none⟩ (.int .i64 x.f3)).setCell ⟨w5.heap.size, 4, none⟩ (.slice A5 x.f4.length c5)).heap[v3.heap.size]? = some (Obj.cells #[.int .i64 0, .string ⟨#[]⟩, .int .i64 0, .int .i64 0, .slice none 0 0] 24) := (blk_far (blk_far (blk_far (blk_far (blk_far V6.out (show v3.heap.size ≠ w5.heap.size from hne) _) (show v3.heap.size ≠ w5.heap.size from hne) _) (show v3.heap.size ≠ w5.heap.size from hne) _) (show v3.heap.size ≠ w5.heap.size from hne) _) (show v3.heap.size ≠ w5.heap.size from hne) _)
              have hbs : Below w5.heap.size w5 (((((v4.setCell ⟨w5.heap.size, 0, none⟩ (.int .i64 x.f0)).setCell ⟨w5.heap.size, 1, none⟩ (.string x.f1)).setCell ⟨w5.heap.size, 2, none⟩ (.int .i64 x.f2)).setCell ⟨w5.heap.size, 3, none⟩ (.int .i64 x.f3)).setCell ⟨w5.heap.size, 4, none⟩ (.slice A5 x.f4.length c5)) := (below_set (below_set (below_set (below_set (below_set hHeld.2.2.2.2.2.2.2.2.2.2 hge5) hge5) hge5) hge5) hge5)
              have ra2 : Kd.R k24 24 (((((v4.setCell ⟨w5.heap.size, 0, none⟩ (.int .i64 x.f0)).setCell ⟨w5.heap.size, 1, none⟩ (.string x.f1)).setCell ⟨w5.heap.size, 2, none⟩ (.int .i64 x.f2)).setCell ⟨w5.heap.size, 3, none⟩ (.int .i64 x.f3)).setCell ⟨w5.heap.size, 4, none⟩ (.slice A5 x.f4.length c5)) _ _ _ _ := (Kd.R_far (Kd.R_far (Kd.R_far (Kd.R_far (Kd.R_far RA.out (show ∀ k, _ → k ≠ w5.heap.size from fun k hk => by have := Z1.out; have := L5.out; have := Z2.out; have := Z3.out; have := Z4.out; have := L6.out; omega) _) (show ∀ k, _ → k ≠ w5.heap.size from fun k hk => by have := Z1.out; have := L5.out; have := Z2.out; have := Z3.out; have := Z4.out; have := L6.out; omega) _) (show ∀ k, _ → k ≠ w5.heap.size from fun k hk => by have := Z1.out; have := L5.out; have := Z2.out; have := Z3.out; have := Z4.out; have := L6.out; omega) _) (show ∀ k, _ → k ≠ w5.heap.size from fun k hk => by have := Z1.out; have := L5.out; have := Z2.out; have := Z3.out; have := Z4.out; have := L6.out; omega) _) (show ∀ k, _ → k ≠ w5.heap.size from fun k hk => by have := Z1.out; have := L5.out; have := Z2.out; have := Z3.out; have := Z4.out; have := L6.out; omega) _)
              have rb2 : Kd.R k24 24 (((((v4.setCell ⟨w5.heap.size, 0, none⟩ (.int .i64 x.f0)).setCell ⟨w5.heap.size, 1, none⟩ (.string x.f1)).setCell ⟨w5.heap.size, 2, none⟩ (.int .i64 x.f2)).setCell ⟨w5.heap.size, 3, none⟩ (.int .i64 x.f3)).setCell ⟨w5.heap.size, 4, none⟩ (.slice A5 x.f4.length c5)) _ _ _ _ := (Kd.R_far (Kd.R_far (Kd.R_far (Kd.R_far (Kd.R_far RB.out (show ∀ k, _ → k ≠ w5.heap.size from fun k hk => by have := Z1.out; have := L5.out; have := Z2.out; have := Z3.out; have := Z4.out; have := L6.out; omega) _) (show ∀ k, _ → k ≠ w5.heap.size from fun k hk => by have := Z1.out; have := L5.out; have := Z2.out; have := Z3.out; have := Z4.out; have := L6.out; omega) _) (show ∀ k, _ → k ≠ w5.heap.size from fun k hk => by have := Z1.out; have := L5.out; have := Z2.out; have := Z3.out; have := Z4.out; have := L6.out; omega) _) (show ∀ k, _ → k ≠ w5.heap.size from fun k hk => by have := Z1.out; have := L5.out; have := Z2.out; have := Z3.out; have := Z4.out; have := L6.out; omega) _) (show ∀ k, _ → k ≠ w5.heap.size from fun k hk => by have := Z1.out; have := L5.out; have := Z2.out; have := Z3.out; have := Z4.out; have := L6.out; omega) _)
              generalize (((((v4.setCell ⟨w5.heap.size, 0, none⟩ (.int .i64 x.f0)).setCell ⟨w5.heap.size, 1, none⟩ (.string x.f1)).setCell ⟨w5.heap.size, 2, none⟩ (.int .i64 x.f2)).setCell ⟨w5.heap.size, 3, none⟩ (.int .i64 x.f3)).setCell ⟨w5.heap.size, 4, none⟩ (.slice A5 x.f4.length c5)) = v5 at vb2 vo hbs ra2 rb2 ⊢
              clear V5 V6 RA RB
              have V5 := Lib.hid vb2; have V6 := Lib.hid vo; have RA := Lib.hid ra2; have RB := Lib.hid rb2
              clear vb vb2 vo ra2 rb2 u0 u1 u2 u3 u4 z0 z1 z2 z3 z4
              refine hK.out _ _ ?_ (fun hHeld => ?_)
              · (try dsimp only); exact TreeFix.keep10 ⟨a0, a1, a2, a3, a4, b0, b1, b2, b3, b4, Below.refl _ _⟩ hbs
              clear hK K
              (try simp only [Act.put, List.getElem_toArray, List.getElem_cons_succ, List.getElem_cons_zero, List.setIfInBounds_toArray, List.set_cons_zero, List.set_cons_succ])
              clear hbs
              have vb := V6.out
              have u0 := blk_cell vb 0
              have u1 := blk_cell vb 1
              have u2 := blk_cell vb 2
              have u3 := blk_cell vb 3
              have u4 := blk_cell vb 4
              simp only [List.getElem?_toArray, List.getElem?_cons_zero, List.getElem?_cons_succ] at u0 u1 u2 u3 u4
              have z0 := blk_frozen vb 0
              have z1 := blk_frozen vb 1
              have z2 := blk_frozen vb 2
              have z3 := blk_frozen vb 3
              have z4 := blk_frozen vb 4
              refine wpAnyH_ready (rs := [7]) (by kernel_rfl) (by simp) ?_
              refine AllReadyH.cons rfl (fun K hK => ?_) (AllReadyH.nil)
              (try simp only [List.getElem_toArray, List.getElem_cons_succ, List.getElem_cons_zero])
              go_simp
              have vb2 : (((((v5.setCell ⟨v3.heap.size, 0, none⟩ (.int .i64 y.f0)).setCell ⟨v3.heap.size, 1, none⟩ (.string y.f1)).setCell ⟨v3.heap.size, 2, none⟩ (.int .i64 y.f2)).setCell ⟨v3.heap.size, 3, none⟩ (.int .i64 y.f3)).setCell ⟨v3.heap.size, 4, none⟩ (.slice A6 y.f4.length c6)).heap[v3.heap.size]? = some (Obj.cells #[.int .i64 y.f0, .string y.f1, .int .i64 y.f2, .int .i64 y.f3, .slice A6 y.f4.length c6] 24) := (blk_put (blk_put (blk_put (blk_put (blk_put vb 0 (.int .i64 y.f0) rfl) 1 (.string y.f1) rfl) 2 (.int .i64 y.f2) rfl) 3 (.int .i64 y.f3) rfl) 4 (.slice A6 y.f4.length c6) rfl)
              have vo : (((((v5.setCell ⟨v3.heap.size, 0, none⟩ (.int .i64 y.f0)).setCell ⟨v3.heap.size, 1, none⟩ (.string y.f1)).setCell ⟨v3.heap.size, 2, none⟩ (.int .i64 y.f2)).setCell ⟨v3.heap.size, 3, none⟩ (.int .i64 y.f3)).setCell ⟨v3.heap.size, 4, none⟩ (.slice A6 y.f4.length c6)).heap[w5.heap.size]? = some (Obj.cells #[.int .i64 x.f0, .string x.f1, .int .i64 x.f2, .int .i64 x.f3, .slice A5 x.f4.length c5] 24) := (blk_far (blk_far (blk_far (blk_far (blk_far V5.out (show w5.heap.size ≠ v3.heap.size from (Ne.symm hne)) _) (show w5.heap.size ≠ v3.heap.size from (Ne.symm hne)) _) (show w5.heap.size ≠ v3.heap.size from (Ne.symm hne)) _) (show w5.heap.size ≠ v3.heap.size from (Ne.symm hne)) _) (show w5.heap.size ≠ v3.heap.size from (Ne.symm hne)) _)
              have hbs : Below w5.heap.size w5 (((((v5.setCell ⟨v3.heap.size, 0, none⟩ (.int .i64 y.f0)).setCell ⟨v3.heap.size, 1, none⟩ (.string y.f1)).setCell ⟨v3.heap.size, 2, none⟩ (.int .i64 y.f2)).setCell ⟨v3.heap.size, 3, none⟩ (.int .i64 y.f3)).setCell ⟨v3.heap.size, 4, none⟩ (.slice A6 y.f4.length c6)) := (below_set (below_set (below_set (below_set (below_set hHeld.2.2.2.2.2.2.2.2.2.2 hge6) hge6) hge6) hge6) hge6)
              have ra2 : Kd.R k24 24 (((((v5.setCell ⟨v3.heap.size, 0, none⟩ (.int .i64 y.f0)).setCell ⟨v3.heap.size, 1, none⟩ (.string y.f1)).setCell ⟨v3.heap.size, 2, none⟩ (.int .i64 y.f2)).setCell ⟨v3.heap.size, 3, none⟩ (.int .i64 y.f3)).setCell ⟨v3.heap.size, 4, none⟩ (.slice A6 y.f4.length c6)) _ _ _ _ := (Kd.R_far (Kd.R_far (Kd.R_far (Kd.R_far (Kd.R_far RA.out (show ∀ k, _ → k ≠ v3.heap.size from fun k hk => by have := Z1.out; have := L5.out; have := Z2.out; have := Z3.out; have := Z4.out; have := L6.out; omega) _) (show ∀ k, _ → k ≠ v3.heap.size from fun k hk => by have := Z1.out; have := L5.out; have := Z2.out; have := Z3.out; have := Z4.out; have := L6.out; omega) _) (show ∀ k, _ → k ≠ v3.heap.size from fun k hk => by have := Z1.out; have := L5.out; have := Z2.out; have := Z3.out; have := Z4.out; have := L6.out; omega) _) (show ∀ k, _ → k ≠ v3.heap.size from fun k hk => by have := Z1.out; have := L5.out; have := Z2.out; have := Z3.out; have := Z4.out; have := L6.out; omega) _) (show ∀ k, _ → k ≠ v3.heap.size from fun k hk => by have := Z1.out; have := L5.out; have := Z2.out; have := Z3.out; have := Z4.out; have := L6.out; omega) _)
              have rb2 : Kd.R k24 24 (((((v5.setCell ⟨v3.heap.size, 0, none⟩ (.int .i64 y.f0)).setCell ⟨v3.heap.size, 1, none⟩ (.string y.f1)).setCell ⟨v3.heap.size, 2, none⟩ (.int .i64 y.f2)).setCell ⟨v3.heap.size, 3, none⟩ (.int .i64 y.f3)).setCell ⟨v3.heap.size, 4, none⟩ (.slice A6 y.f4.length c6)) _ _ _ _ := (Kd.R_far (Kd.R_far (Kd.R_far (Kd.R_far (Kd.R_far RB.out (show ∀ k, _ → k ≠ v3.heap.size from fun k hk => by have := Z1.out; have := L5.out; have := Z2.out; have := Z3.out; have := Z4.out; have := L6.out; omega) _) (show ∀ k, _ → k ≠ v3.heap.size from fun k hk => by have := Z1.out; have := L5.out; have := Z2.out; have := Z3.out; have := Z4.out; have := L6.out; omega) _) (show ∀ k, _ → k ≠ v3.heap.size from fun k hk => by have := Z1.out; have := L5.out; have := Z2.out; have := Z3.out; have := Z4.out; have := L6.out; omega) _) (show ∀ k, _ → k ≠ v3.heap.size from fun k hk => by have := Z1.out; have := L5.out; have := Z2.out; have := Z3.out; have := Z4.out; have := L6.out; omega) _) (show ∀ k, _ → k ≠ v3.heap.size from fun k hk => by have := Z1.out; have := L5.out; have := Z2.out; have := Z3.out; have := Z4.out; have := L6.out; omega) _)
              generalize (((((v5.setCell ⟨v3.heap.size, 0, none⟩ (.int .i64 y.f0)).setCell ⟨v3.heap.size, 1, none⟩ (.string y.f1)).setCell ⟨v3.heap.size, 2, none⟩ (.int .i64 y.f2)).setCell ⟨v3.heap.size, 3, none⟩ (.int .i64 y.f3)).setCell ⟨v3.heap.size, 4, none⟩ (.slice A6 y.f4.length c6)) = v6 at vb2 vo hbs ra2 rb2 ⊢
              clear V5 V6 RA RB
              have V6 := Lib.hid vb2; have V5 := Lib.hid vo; have RA := Lib.hid ra2; have RB := Lib.hid rb2
              clear vb vb2 vo ra2 rb2 u0 u1 u2 u3 u4 z0 z1 z2 z3 z4
              refine hK.out _ _ ?_ (fun hHeld => ?_)
              · (try dsimp only); exact TreeFix.keep10 ⟨a0, a1, a2, a3, a4, b0, b1, b2, b3, b4, Below.refl _ _⟩ hbs
              clear hK K
              (try simp only [Act.put, List.getElem_toArray, List.getElem_cons_succ, List.getElem_cons_zero, List.setIfInBounds_toArray, List.set_cons_zero, List.set_cons_succ])
              refine wpAnyH_done (by kernel_rfl) ?_ _
              exact KEY w5.heap.size v3.heap.size A5 c5 A6 c6 v6 hbs V5.out V6.out (Kd.R_reads' RA.out).2.2 hc5 (Kd.R_reads' RB.out).2.2 hc6
            · (try simp only [List.getElem_toArray, List.getElem_cons_succ, List.getElem_cons_zero])
              go_simp
              have hb : Below v2.heap.size v2 (v2.alloc (Obj.cells #[.int .i64 0, .string ⟨#[]⟩, .int .i64 0, .int .i64 0, .slice none 0 0] 24)) := below_alloc (Below.refl _ _) _
              have vb : (v2.alloc (Obj.cells #[.int .i64 0, .string ⟨#[]⟩, .int .i64 0, .int .i64 0, .slice none 0 0] 24)).heap[v2.heap.size]? = some (Obj.cells #[.int .i64 0, .string ⟨#[]⟩, .int .i64 0, .int .i64 0, .slice none 0 0] 24) := blk_new _ _
              generalize (v2.alloc (Obj.cells #[.int .i64 0, .string ⟨#[]⟩, .int .i64 0, .int .i64 0, .slice none 0 0] 24)) = v3 at hb vb ⊢
              have n_ := Lib.hid (Kd.R_below RA.out hb)
              clear RA
              have RA := n_
              clear n_
              have n_ := Lib.hid (blk_below V5.out hb)
              clear V5
              have V5 := n_
              clear n_
              have V6 := Lib.hid vb
              have Z3 := Lib.hid hb.size
              have L6 := Lib.hid (blk_lt vb)
              clear vb
              refine hK.out _ _ ?_ (fun hHeld => ?_)
              · (try dsimp only); exact TreeFix.keep10 hHeld hb
              clear hK K
              (try simp only [Act.put, List.getElem_toArray, List.getElem_cons_succ, List.getElem_cons_zero, List.setIfInBounds_toArray, List.set_cons_zero, List.set_cons_succ])
              refine wpAnyH_ready (rs := [3]) (by kernel_rfl) (by simp) ?_
              refine AllReadyH.cons rfl (fun K hK => ?_) (AllReadyH.nil)
              (try simp only [List.getElem_toArray, List.getElem_cons_succ, List.getElem_cons_zero])
              go_simp
              refine (tree_Bare.calls qb b.f0 b.f1 b.f2 b.f3 Ab cb b.f4 y.f0 y.f1 y.f2 y.f3 y.f4 _ (Kd.C_below Cb.out hHeld.2.2.2.2.2.2.2.2.2.2) hlb Kb.out).mono ?_
              rintro e v4 ⟨v_, rfl, ra, hb⟩
              obtain ⟨A6, c6, rfl, hc6, _⟩ := Kd.R_reads ra
              have RB := Lib.hid (Kd.R_mono (Kd.R_bound ra) (fun k hk => (⟨hk.2.1, hk.2.2.1⟩ : v3.heap.size ≤ k ∧ k < v4.heap.size)))
              clear ra
              have n_ := Lib.hid (Kd.R_below RA.out hb)
              clear RA
              have RA := n_
              clear n_
              have n_ := Lib.hid (blk_below V6.out hb)
              clear V6
              have V6 := n_
              clear n_
              have n_ := Lib.hid (blk_below V5.out hb)
              clear V5
              have V5 := n_
              clear n_
              have Z4 := Lib.hid hb.size
              simp only []
              refine hK.out _ _ ?_ (fun hHeld => ?_)
              · (try dsimp only); exact TreeFix.keep10 hHeld hb
              clear hK K
              (try simp only [Act.put, List.getElem_toArray, List.getElem_cons_succ, List.getElem_cons_zero, List.setIfInBounds_toArray, List.set_cons_zero, List.set_cons_succ])
              have hge5 : w5.heap.size ≤ w5.heap.size := by have := Z1.out; have := L5.out; have := Z2.out; have := Z3.out; have := L6.out; have := Z4.out; omega
              have hge6 : w5.heap.size ≤ v2.heap.size := by have := Z1.out; have := L5.out; have := Z2.out; have := Z3.out; have := L6.out; have := Z4.out; omega
              have hne : v2.heap.size ≠ w5.heap.size := by have := Z1.out; have := L5.out; have := Z2.out; have := Z3.out; have := L6.out; have := Z4.out; omega
              have vb := V5.out
              have u0 := blk_cell vb 0
              have u1 := blk_cell vb 1
              have u2 := blk_cell vb 2
              have u3 := blk_cell vb 3
              have u4 := blk_cell vb 4
              simp only [List.getElem?_toArray, List.getElem?_cons_zero, List.getElem?_cons_succ] at u0 u1 u2 u3 u4
              have z0 := blk_frozen vb 0
              have z1 := blk_frozen vb 1
              have z2 := blk_frozen vb 2
              have z3 := blk_frozen vb 3
              have z4 := blk_frozen vb 4
              refine wpAnyH_ready (rs := [6]) (by kernel_rfl) (by simp) ?_
              refine AllReadyH.cons rfl (fun K hK => ?_) (AllReadyH.nil)
              (try simp only [List.getElem_toArray, List.getElem_cons_succ, List.getElem_cons_zero])
              go_simp
              have vb2 : (((((v4.setCell ⟨w5.heap.size, 0, none⟩ (.int .i64 x.f0)).setCell ⟨w5.heap.size, 1, none⟩ (.string x.f1)).setCell ⟨w5.heap.size, 2, none⟩ (.int .i64 x.f2)).setCell ⟨w5.heap.size, 3, none⟩ (.int .i64 x.f3)).setCell ⟨w5.heap.size, 4, none⟩ (.slice A5 x.f4.length c5)).heap[w5.heap.size]? = some (Obj.cells #[.int .i64 x.f0, .string x.f1, .int .i64 x.f2, .int .i64 x.f3, .slice A5 x.f4.length c5] 24) := (blk_put (blk_put (blk_put (blk_put (blk_put vb 0 (.int .i64 x.f0) rfl) 1 (.string x.f1) rfl) 2 (.int .i64 x.f2) rfl) 3 (.int .i64 x.f3) rfl) 4 (.slice A5 x.f4.length c5) rfl)
              have vo : (((((v4.setCell ⟨w5.heap.size, 0, none⟩ (.int .i64 x.f0)).setCell ⟨w5.heap.size, 1, none⟩ (.string x.f1)).setCell ⟨w5.heap.size, 2, none⟩ (.int .i64 x.f2)).setCell ⟨w5.heap.size, 3, none⟩ (.int .i64 x.f3)).setCell ⟨w5.heap.size, 4, none⟩ (.slice A5 x.f4.length c5)).heap[v2.heap.size]? = some (Obj.cells #[.int .i64 0, .string ⟨#[]⟩, .int .i64 0, .int .i64 0, .slice none 0 0] 24) := (blk_far (blk_far (blk_far (blk_far (blk_far V6.out (show v2.heap.size ≠ w5.heap.size from hne) _) (show v2.heap.size ≠ w5.heap.size from hne) _) (show v2.heap.size ≠ w5.heap.size from hne) _) (show v2.heap.size ≠ w5.heap.size from hne) _) (show v2.heap.size ≠ w5.heap.size from hne) _)
              have hbs : Below w5.heap.size w5 (((((v4.setCell ⟨w5.heap.size, 0, none⟩ (.int .i64 x.f0)).setCell ⟨w5.heap.size, 1, none⟩ (.string x.f1)).setCell ⟨w5.heap.size, 2, none⟩ (.int .i64 x.f2)).setCell ⟨w5.heap.size, 3, none⟩ (.int .i64 x.f3)).setCell ⟨w5.heap.size, 4, none⟩ (.slice A5 x.f4.length c5)) := (below_set (below_set (below_set (below_set (below_set hHeld.2.2.2.2.2.2.2.2.2.2 hge5) hge5) hge5) hge5) hge5)
              have ra2 : Kd.R k24 24 (((((v4.setCell ⟨w5.heap.size, 0, none⟩ (.int .i64 x.f0)).setCell ⟨w5.heap.size, 1, none⟩ (.string x.f1)).setCell ⟨w5.heap.size, 2, none⟩ (.int .i64 x.f2)).setCell ⟨w5.heap.size, 3, none⟩ (.int .i64 x.f3)).setCell ⟨w5.heap.size, 4, none⟩ (.slice A5 x.f4.length c5)) _ _ _ _ := (Kd.R_far (Kd.R_far (Kd.R_far (Kd.R_far (Kd.R_far RA.out (show ∀ k, _ → k ≠ w5.heap.size from fun k hk => by have := Z1.out; have := L5.out; have := Z2.out; have := Z3.out; have := L6.out; have := Z4.out; omega) _) (show ∀ k, _ → k ≠ w5.heap.size from fun k hk => by have := Z1.out; have := L5.out; have := Z2.out; have := Z3.out; have := L6.out; have := Z4.out; omega) _) (show ∀ k, _ → k ≠ w5.heap.size from fun k hk => by have := Z1.out; have := L5.out; have := Z2.out; have := Z3.out; have := L6.out; have := Z4.out; omega) _) (show ∀ k, _ → k ≠ w5.heap.size from fun k hk => by have := Z1.out; have := L5.out; have := Z2.out; have := Z3.out; have := L6.out; have := Z4.out; omega) _) (show ∀ k, _ → k ≠ w5.heap.size from fun k hk => by have := Z1.out; have := L5.out; have := Z2.out; have := Z3.out; have := L6.out; have := Z4.out; omega) _)
              have rb2 : Kd.R k24 24 (((((v4.setCell ⟨w5.heap.size, 0, none⟩ (.int .i64 x.f0)).setCell ⟨w5.heap.size, 1, none⟩ (.string x.f1)).setCell ⟨w5.heap.size, 2, none⟩ (.int .i64 x.f2)).setCell ⟨w5.heap.size, 3, none⟩ (.int .i64 x.f3)).setCell ⟨w5.heap.size, 4, none⟩ (.slice A5 x.f4.length c5)) _ _ _ _ := (Kd.R_far (Kd.R_far (Kd.R_far (Kd.R_far (Kd.R_far RB.out (show ∀ k, _ → k ≠ w5.heap.size from fun k hk => by have := Z1.out; have := L5.out; have := Z2.out; have := Z3.out; have := L6.out; have := Z4.out; omega) _) (show ∀ k, _ → k ≠ w5.heap.size from fun k hk => by have := Z1.out; have := L5.out; have := Z2.out; have := Z3.out; have := L6.out; have := Z4.out; omega) _) (show ∀ k, _ → k ≠ w5.heap.size from fun k hk => by have := Z1.out; have := L5.out; have := Z2.out; have := Z3.out; have := L6.out; have := Z4.out; omega) _) (show ∀ k, _ → k ≠ w5.heap.size from fun k hk => by have := Z1.out; have := L5.out; have := Z2.out; have := Z3.out; have := L6.out; have := Z4.out; omega) _) (show ∀ k, _ → k ≠ w5.heap.size from fun k hk => by have := Z1.out; have := L5.out; have := Z2.out; have := Z3.out; have := L6.out; have := Z4.out; omega) _)
              generalize (((((v4.setCell ⟨w5.heap.size, 0, none⟩ (.int .i64 x.f0)).setCell ⟨w5.heap.size, 1, none⟩ (.string x.f1)).setCell ⟨w5.heap.size, 2, none⟩ (.int .i64 x.f2)).setCell ⟨w5.heap.size, 3, none⟩ (.int .i64 x.f3)).setCell ⟨w5.heap.size, 4, none⟩ (.slice A5 x.f4.length c5)) = v5 at vb2 vo hbs ra2 rb2 ⊢
              clear V5 V6 RA RB
              have V5 := Lib.hid vb2; have V6 := Lib.hid vo; have RA := Lib.hid ra2; have RB := Lib.hid rb2
              clear vb vb2 vo ra2 rb2 u0 u1 u2 u3 u4 z0 z1 z2 z3 z4
              refine hK.out _ _ ?_ (fun hHeld => ?_)
              · (try dsimp only); exact TreeFix.keep10 ⟨a0, a1, a2, a3, a4, b0, b1, b2, b3, b4, Below.refl _ _⟩ hbs
              clear hK K
              (try simp only [Act.put, List.getElem_toArray, List.getElem_cons_succ, List.getElem_cons_zero, List.setIfInBounds_toArray, List.set_cons_zero, List.set_cons_succ])
              clear hbs
              have vb := V6.out
              have u0 := blk_cell vb 0
              have u1 := blk_cell vb 1
              have u2 := blk_cell vb 2
              have u3 := blk_cell vb 3
              have u4 := blk_cell vb 4
              simp only [List.getElem?_toArray, List.getElem?_cons_zero, List.getElem?_cons_succ] at u0 u1 u2 u3 u4
              have z0 := blk_frozen vb 0
              have z1 := blk_frozen vb 1
              have z2 := blk_frozen vb 2
              have z3 := blk_frozen vb 3
              have z4 := blk_frozen vb 4
              refine wpAnyH_ready (rs := [7]) (by kernel_rfl) (by simp) ?_
              refine AllReadyH.cons rfl (fun K hK => ?_) (AllReadyH.nil)
              (try simp only [List.getElem_toArray, List.getElem_cons_succ, List.getElem_cons_zero])
              go_simp
              have vb2 : (((((v5.setCell ⟨v2.heap.size, 0, none⟩ (.int .i64 y.f0)).setCell ⟨v2.heap.size, 1, none⟩ (.string y.f1)).setCell ⟨v2.heap.size, 2, none⟩ (.int .i64 y.f2)).setCell ⟨v2.heap.size, 3, none⟩ (.int .i64 y.f3)).setCell ⟨v2.heap.size, 4, none⟩ (.slice A6 y.f4.length c6)).heap[v2.heap.size]? = some (Obj.cells #[.int .i64 y.f0, .string y.f1, .int .i64 y.f2, .int .i64 y.f3, .slice A6 y.f4.length c6] 24) := (blk_put (blk_put (blk_put (blk_put (blk_put vb 0 (.int .i64 y.f0) rfl) 1 (.string y.f1) rfl) 2 (.int .i64 y.f2) rfl) 3 (.int .i64 y.f3) rfl) 4 (.slice A6 y.f4.length c6) rfl)
              have vo : (((((v5.setCell ⟨v2.heap.size, 0, none⟩ (.int .i64 y.f0)).setCell ⟨v2.heap.size, 1, none⟩ (.string y.f1)).setCell ⟨v2.heap.size, 2, none⟩ (.int .i64 y.f2)).setCell ⟨v2.heap.size, 3, none⟩ (.int .i64 y.f3)).setCell ⟨v2.heap.size, 4, none⟩ (.slice A6 y.f4.length c6)).heap[w5.heap.size]? = some (Obj.cells #[.int .i64 x.f0, .string x.f1, .int .i64 x.f2, .int .i64 x.f3, .slice A5 x.f4.length c5] 24) := (blk_far (blk_far (blk_far (blk_far (blk_far V5.out (show w5.heap.size ≠ v2.heap.size from (Ne.symm hne)) _) (show w5.heap.size ≠ v2.heap.size from (Ne.symm hne)) _) (show w5.heap.size ≠ v2.heap.size from (Ne.symm hne)) _) (show w5.heap.size ≠ v2.heap.size from (Ne.symm hne)) _) (show w5.heap.size ≠ v2.heap.size from (Ne.symm hne)) _)
              have hbs : Below w5.heap.size w5 (((((v5.setCell ⟨v2.heap.size, 0, none⟩ (.int .i64 y.f0)).setCell ⟨v2.heap.size, 1, none⟩ (.string y.f1)).setCell ⟨v2.heap.size, 2, none⟩ (.int .i64 y.f2)).setCell ⟨v2.heap.size, 3, none⟩ (.int .i64 y.f3)).setCell ⟨v2.heap.size, 4, none⟩ (.slice A6 y.f4.length c6)) := (below_set (below_set (below_set (below_set (below_set hHeld.2.2.2.2.2.2.2.2.2.2 hge6) hge6) hge6) hge6) hge6)
              have ra2 : Kd.R k24 24 (((((v5.setCell ⟨v2.heap.size, 0, none⟩ (.int .i64 y.f0)).setCell ⟨v2.heap.size, 1, none⟩ (.string y.f1)).setCell ⟨v2.heap.size, 2, none⟩ (.int .i64 y.f2)).setCell ⟨v2.heap.size, 3, none⟩ (.int .i64 y.f3)).setCell ⟨v2.heap.size, 4, none⟩ (.slice A6 y.f4.length c6)) _ _ _ _ := (Kd.R_far (Kd.R_far (Kd.R_far (Kd.R_far (Kd.R_far RA.out (show ∀ k, _ → k ≠ v2.heap.size from fun k hk => by have := Z1.out; have := L5.out; have := Z2.out; have := Z3.out; have := L6.out; have := Z4.out; omega) _) (show ∀ k, _ → k ≠ v2.heap.size from fun k hk => by have := Z1.out; have := L5.out; have := Z2.out; have := Z3.out; have := L6.out; have := Z4.out; omega) _) (show ∀ k, _ → k ≠ v2.heap.size from fun k hk => by have := Z1.out; have := L5.out; have := Z2.out; have := Z3.out; have := L6.out; have := Z4.out; omega) _) (show ∀ k, _ → k ≠ v2.heap.size from fun k hk => by have := Z1.out; have := L5.out; have := Z2.out; have := Z3.out; have := L6.out; have := Z4.out; omega) _) (show ∀ k, _ → k ≠ v2.heap.size from fun k hk => by have := Z1.out; have := L5.out; have := Z2.out; have := Z3.out; have := L6.out; have := Z4.out; omega) _)
              have rb2 : Kd.R k24 24 (((((v5.setCell ⟨v2.heap.size, 0, none⟩ (.int .i64 y.f0)).setCell ⟨v2.heap.size, 1, none⟩ (.string y.f1)).setCell ⟨v2.heap.size, 2, none⟩ (.int .i64 y.f2)).setCell ⟨v2.heap.size, 3, none⟩ (.int .i64 y.f3)).setCell ⟨v2.heap.size, 4, none⟩ (.slice A6 y.f4.length c6)) _ _ _ _ := (Kd.R_far (Kd.R_far (Kd.R_far (Kd.R_far (Kd.R_far RB.out (show ∀ k, _ → k ≠ v2.heap.size from fun k hk => by have := Z1.out; have := L5.out; have := Z2.out; have := Z3.out; have := L6.out; have := Z4.out; omega) _) (show ∀ k, _ → k ≠ v2.heap.size from fun k hk => by have := Z1.out; have := L5.out; have := Z2.out; have := Z3.out; have := L6.out; have := Z4.out; omega) _) (show ∀ k, _ → k ≠ v2.heap.size from fun k hk => by have := Z1.out; have := L5.out; have := Z2.out; have := Z3.out; have := L6.out; have := Z4.out; omega) _) (show ∀ k, _ → k ≠ v2.heap.size from fun k hk => by have := Z1.out; have := L5.out; have := Z2.out; have := Z3.out; have := L6.out; have := Z4.out; omega) _) (show ∀ k, _ → k ≠ v2.heap.size from fun k hk => by have := Z1.out; have := L5.out; have := Z2.out; have := Z3.out; have := L6.out; have := Z4.out; omega) _)
              generalize (((((v5.setCell ⟨v2.heap.size, 0, none⟩ (.int .i64 y.f0)).setCell ⟨v2.heap.size, 1, none⟩ (.string y.f1)).setCell ⟨v2.heap.size, 2, none⟩ (.int .i64 y.f2)).setCell ⟨v2.heap.size, 3, none⟩ (.int .i64 y.f3)).setCell ⟨v2.heap.size, 4, none⟩ (.slice A6 y.f4.length c6)) = v6 at vb2 vo hbs ra2 rb2 ⊢
              clear V5 V6 RA RB
              have V6 := Lib.hid vb2; have V5 := Lib.hid vo; have RA := Lib.hid ra2; have RB := Lib.hid rb2
              clear vb vb2 vo ra2 rb2 u0 u1 u2 u3 u4 z0 z1 z2 z3 z4
              refine hK.out _ _ ?_ (fun hHeld => ?_)
              · (try dsimp only); exact TreeFix.keep10 ⟨a0, a1, a2, a3, a4, b0, b1, b2, b3, b4, Below.refl _ _⟩ hbs
              clear hK K
              (try simp only [Act.put, List.getElem_toArray, List.getElem_cons_succ, List.getElem_cons_zero, List.setIfInBounds_toArray, List.set_cons_zero, List.set_cons_succ])
              refine wpAnyH_done (by kernel_rfl) ?_ _
              exact KEY w5.heap.size v2.heap.size A5 c5 A6 c6 v6 hbs V5.out V6.out (Kd.R_reads' RA.out).2.2 hc5 (Kd.R_reads' RB.out).2.2 hc6
          · (try simp only [List.getElem_toArray, List.getElem_cons_succ, List.getElem_cons_zero])
            go_simp
            have hb : Below v1.heap.size v1 (v1.alloc (Obj.cells #[.int .i64 0, .string ⟨#[]⟩, .int .i64 0, .int .i64 0, .slice none 0 0] 24)) := below_alloc (Below.refl _ _) _
            have vb : (v1.alloc (Obj.cells #[.int .i64 0, .string ⟨#[]⟩, .int .i64 0, .int .i64 0, .slice none 0 0] 24)).heap[v1.heap.size]? = some (Obj.cells #[.int .i64 0, .string ⟨#[]⟩, .int .i64 0, .int .i64 0, .slice none 0 0] 24) := blk_new _ _
            generalize (v1.alloc (Obj.cells #[.int .i64 0, .string ⟨#[]⟩, .int .i64 0, .int .i64 0, .slice none 0 0] 24)) = v2 at hb vb ⊢
            have n_ := Lib.hid (blk_below V5.out hb)
            clear V5
            have V5 := n_
            clear n_
            have V6 := Lib.hid vb
            have Z2 := Lib.hid hb.size
            have L6 := Lib.hid (blk_lt vb)
            clear vb
            refine hK.out _ _ ?_ (fun hHeld => ?_)
            · (try dsimp only); exact TreeFix.keep10 hHeld hb
            clear hK K
            (try simp only [Act.put, List.getElem_toArray, List.getElem_cons_succ, List.getElem_cons_zero, List.setIfInBounds_toArray, List.set_cons_zero, List.set_cons_succ])
            refine wpAnyH_ready (rs := [1]) (by kernel_rfl) (by simp) ?_
            refine AllReadyH.cons rfl (fun K hK => ?_) (AllReadyH.nil)
            (try simp only [List.getElem_toArray, List.getElem_cons_succ, List.getElem_cons_zero])
            go_simp
            refine (tree_Bare.calls qa a.f0 a.f1 a.f2 a.f3 Aa ca a.f4 x.f0 x.f1 x.f2 x.f3 x.f4 _ (Kd.C_below Ca.out hHeld.2.2.2.2.2.2.2.2.2.2) hla Ka.out).mono ?_
            rintro e v3 ⟨v_, rfl, ra, hb⟩
            obtain ⟨A5, c5, rfl, hc5, _⟩ := Kd.R_reads ra
            have RA := Lib.hid (Kd.R_mono (Kd.R_bound ra) (fun k hk => (⟨hk.2.1, hk.2.2.1⟩ : v2.heap.size ≤ k ∧ k < v3.heap.size)))
            clear ra
            have n_ := Lib.hid (blk_below V6.out hb)
            clear V6
            have V6 := n_
            clear n_
            have n_ := Lib.hid (blk_below V5.out hb)
            clear V5
            have V5 := n_
            clear n_
            have Z3 := Lib.hid hb.size
            simp only []
            refine hK.out _ _ ?_ (fun hHeld => ?_)
            · (try dsimp only); exact TreeFix.keep10 hHeld hb
            clear hK K
            (try simp only [Act.put, List.getElem_toArray, List.getElem_cons_succ, List.getElem_cons_zero, List.setIfInBounds_toArray, List.set_cons_zero, List.set_cons_succ])
            refine wpAnyH_ready (rs := [3]) (by kernel_rfl) (by simp) ?_
            refine AllReadyH.cons rfl (fun K hK => ?_) (AllReadyH.nil)
            (try simp only [List.getElem_toArray, List.getElem_cons_succ, List.getElem_cons_zero])
            go_simp
            refine (tree_Bare.calls qb b.f0 b.f1 b.f2 b.f3 Ab cb b.f4 y.f0 y.f1 y.f2 y.f3 y.f4 _ (Kd.C_below Cb.out hHeld.2.2.2.2.2.2.2.2.2.2) hlb Kb.out).mono ?_
            rintro e v4 ⟨v_, rfl, ra, hb⟩
            obtain ⟨A6, c6, rfl, hc6, _⟩ := Kd.R_reads ra
            have RB := Lib.hid (Kd.R_mono (Kd.R_bound ra) (fun k hk => (⟨hk.2.1, hk.2.2.1⟩ : v3.heap.size ≤ k ∧ k < v4.heap.size)))
            clear ra
            have n_ := Lib.hid (Kd.R_below RA.out hb)
            clear RA
            have RA := n_
            clear n_
            have n_ := Lib.hid (blk_below V6.out hb)
            clear V6
            have V6 := n_
            clear n_
            have n_ := Lib.hid (blk_below V5.out hb)
            clear V5
            have V5 := n_
            clear n_
            have Z4 := Lib.hid hb.size
            simp only []
            refine hK.out _ _ ?_ (fun hHeld => ?_)
            · (try dsimp only); exact TreeFix.keep10 hHeld hb
            clear hK K
            (try simp only [Act.put, List.getElem_toArray, List.getElem_cons_succ, List.getElem_cons_zero, List.setIfInBounds_toArray, List.set_cons_zero, List.set_cons_succ])
            have hge5 : w5.heap.size ≤ w5.heap.size := by have := Z1.out; have := L5.out; have := Z2.out; have := L6.out; have := Z3.out; have := Z4.out; omega
            have hge6 : w5.heap.size ≤ v1.heap.size := by have := Z1.out; have := L5.out; have := Z2.out; have := L6.out; have := Z3.out; have := Z4.out; omega
            have hne : v1.heap.size ≠ w5.heap.size := by have := Z1.out; have := L5.out; have := Z2.out; have := L6.out; have := Z3.out; have := Z4.out; omega
            have vb := V5.out
            have u0 := blk_cell vb 0
            have u1 := blk_cell vb 1
            have u2 := blk_cell vb 2
            have u3 := blk_cell vb 3
            have u4 := blk_cell vb 4
            simp only [List.getElem?_toArray, List.getElem?_cons_zero, List.getElem?_cons_succ] at u0 u1 u2 u3 u4
            have z0 := blk_frozen vb 0
            have z1 := blk_frozen vb 1
            have z2 := blk_frozen vb 2
            have z3 := blk_frozen vb 3
            have z4 := blk_frozen vb 4
            refine wpAnyH_ready (rs := [6]) (by kernel_rfl) (by simp) ?_
            refine AllReadyH.cons rfl (fun K hK => ?_) (AllReadyH.nil)
            (try simp only [List.getElem_toArray, List.getElem_cons_succ, List.getElem_cons_zero])
            go_simp
            have vb2 : (((((v4.setCell ⟨w5.heap.size, 0, none⟩ (.int .i64 x.f0)).setCell ⟨w5.heap.size, 1, none⟩ (.string x.f1)).setCell ⟨w5.heap.size, 2, none⟩ (.int .i64 x.f2)).setCell ⟨w5.heap.size, 3, none⟩ (.int .i64 x.f3)).setCell ⟨w5.heap.size, 4, none⟩ (.slice A5 x.f4.length c5)).heap[w5.heap.size]? = some (Obj.cells #[.int .i64 x.f0, .string x.f1, .int .i64 x.f2, .int .i64 x.f3, .slice A5 x.f4.length c5] 24) := (blk_put (blk_put (blk_put (blk_put (blk_put vb 0 (.int .i64 x.f0) rfl) 1 (.string x.f1) rfl) 2 (.int .i64 x.f2) rfl) 3 (.int .i64 x.f3) rfl) 4 (.slice A5 x.f4.length c5) rfl)
            have vo : (((((v4.setCell ⟨w5.heap.size, 0, none⟩ (.int .i64 x.f0)).setCell ⟨w5.heap.size, 1, none⟩ (.string x.f1)).setCell ⟨w5.heap.size, 2, none⟩ (.int .i64 x.f2)).setCell ⟨w5.heap.size, 3, none⟩ (.int .i64 x.f3)).setCell ⟨w5.heap.size, 4, none⟩ (.slice A5 x.f4.length c5)).heap[v1.heap.size]? = some (Obj.cells #[.int .i64 0, .string ⟨#[]⟩, .int .i64 0, .int .i64 0, .slice none 0 0] 24) := (blk_far (blk_far (blk_far (blk_far (blk_far V6.out (show v1.heap.size ≠ w5.heap.size from hne) _) (show v1.heap.size ≠ w5.heap.size from hne) _) (show v1.heap.size ≠ w5.heap.size from hne) _) (show v1.heap.size ≠ w5.heap.size from hne) _) (show v1.heap.size ≠ w5.heap.size from hne) _)
            have hbs : Below w5.heap.size w5 (((((v4.setCell ⟨w5.heap.size, 0, none⟩ (.int .i64 x.f0)).setCell ⟨w5.heap.size, 1, none⟩ (.string x.f1)).setCell ⟨w5.heap.size, 2, none⟩ (.int .i64 x.f2)).setCell ⟨w5.heap.size, 3, none⟩ (.int .i64 x.f3)).setCell ⟨w5.heap.size, 4, none⟩ (.slice A5 x.f4.length c5)) := (below_set (below_set (below_set (below_set (below_set hHeld.2.2.2.2.2.2.2.2.2.2 hge5) hge5) hge5) hge5) hge5)
            have ra2 : Kd.R k24 24 (((((v4.setCell ⟨w5.heap.size, 0, none⟩ (.int .i64 x.f0)).setCell ⟨w5.heap.size, 1, none⟩ (.string x.f1)).setCell ⟨w5.heap.size, 2, none⟩ (.int .i64 x.f2)).setCell ⟨w5.heap.size, 3, none⟩ (.int .i64 x.f3)).setCell ⟨w5.heap.size, 4, none⟩ (.slice A5 x.f4.length c5)) _ _ _ _ := (Kd.R_far (Kd.R_far (Kd.R_far (Kd.R_far (Kd.R_far RA.out (show ∀ k, _ → k ≠ w5.heap.size from fun k hk => by have := Z1.out; have := L5.out; have := Z2.out; have := L6.out; have := Z3.out; have := Z4.out; omega) _) (show ∀ k, _ → k ≠ w5.heap.size from fun k hk => by have := Z1.out; have := L5.out; have := Z2.out; have := L6.out; have := Z3.out; have := Z4.out; omega) _) (show ∀ k, _ → k ≠ w5.heap.size from fun k hk => by have := Z1.out; have := L5.out; have := Z2.out; have := L6.out; have := Z3.out; have := Z4.out; omega) _) (show ∀ k, _ → k ≠ w5.heap.size from fun k hk => by have := Z1.out; have := L5.out; have := Z2.out; have := L6.out; have := Z3.out; have := Z4.out; omega) _) (show ∀ k, _ → k ≠ w5.heap.size from fun k hk => by have := Z1.out; have := L5.out; have := Z2.out; have := L6.out; have := Z3.out; have := Z4.out; omega) _)
            have rb2 : Kd.R k24 24 (((((v4.setCell ⟨w5.heap.size, 0, none⟩ (.int .i64 x.f0)).setCell ⟨w5.heap.size, 1, none⟩ (.string x.f1)).setCell ⟨w5.heap.size, 2, none⟩ (.int .i64 x.f2)).setCell ⟨w5.heap.size, 3, none⟩ (.int .i64 x.f3)).setCell ⟨w5.heap.size, 4, none⟩ (.slice A5 x.f4.length c5)) _ _ _ _ := (Kd.R_far (Kd.R_far (Kd.R_far (Kd.R_far (Kd.R_far RB.out (show ∀ k, _ → k ≠ w5.heap.size from fun k hk => by have := Z1.out; have := L5.out; have := Z2.out; have := L6.out; have := Z3.out; have := Z4.out; omega) _) (show ∀ k, _ → k ≠ w5.heap.size from fun k hk => by have := Z1.out; have := L5.out; have := Z2.out; have := L6.out; have := Z3.out; have := Z4.out; omega) _) (show ∀ k, _ → k ≠ w5.heap.size from fun k hk => by have := Z1.out; have := L5.out; have := Z2.out; have := L6.out; have := Z3.out; have := Z4.out; omega) _) (show ∀ k, _ → k ≠ w5.heap.size from fun k hk => by have := Z1.out; have := L5.out; have := Z2.out; have := L6.out; have := Z3.out; have := Z4.out; omega) _) (show ∀ k, _ → k ≠ w5.heap.size from fun k hk => by have := Z1.out; have := L5.out; have := Z2.out; have := L6.out; have := Z3.out; have := Z4.out; omega) _)
            generalize (((((v4.setCell ⟨w5.heap.size, 0, none⟩ (.int .i64 x.f0)).setCell ⟨w5.heap.size, 1, none⟩ (.string x.f1)).setCell ⟨w5.heap.size, 2, none⟩ (.int .i64 x.f2)).setCell ⟨w5.heap.size, 3, none⟩ (.int .i64 x.f3)).setCell ⟨w5.heap.size, 4, none⟩ (.slice A5 x.f4.length c5)) = v5 at vb2 vo hbs ra2 rb2 ⊢
            clear V5 V6 RA RB
            have V5 := Lib.hid vb2; have V6 := Lib.hid vo; have RA := Lib.hid ra2; have RB := Lib.hid rb2
            clear vb vb2 vo ra2 rb2 u0 u1 u2 u3 u4 z0 z1 z2 z3 z4
            refine hK.out _ _ ?_ (fun hHeld => ?_)
            · (try dsimp only); exact TreeFix.keep10 ⟨a0, a1, a2, a3, a4, b0, b1, b2, b3, b4, Below.refl _ _⟩ hbs
            clear hK K
            (try simp only [Act.put, List.getElem_toArray, List.getElem_cons_succ, List.getElem_cons_zero, List.setIfInBounds_toArray, List.set_cons_zero, List.set_cons_succ])
            clear hbs
            have vb := V6.out
            have u0 := blk_cell vb 0
            have u1 := blk_cell vb 1
            have u2 := blk_cell vb 2
            have u3 := blk_cell vb 3
            have u4 := blk_cell vb 4
            simp only [List.getElem?_toArray, List.getElem?_cons_zero, List.getElem?_cons_succ] at u0 u1 u2 u3 u4
            have z0 := blk_frozen vb 0
            have z1 := blk_frozen vb 1
            have z2 := blk_frozen vb 2
            have z3 := blk_frozen vb 3
            have z4 := blk_frozen vb 4
            refine wpAnyH_ready (rs := [7]) (by kernel_rfl) (by simp) ?_
            refine AllReadyH.cons rfl (fun K hK => ?_) (AllReadyH.nil)
            (try simp only [List.getElem_toArray, List.getElem_cons_succ, List.getElem_cons_zero])
            go_simp
            have vb2 : (((((v5.setCell ⟨v1.heap.size, 0, none⟩ (.int .i64 y.f0)).setCell ⟨v1.heap.size, 1, none⟩ (.string y.f1)).setCell ⟨v1.heap.size, 2, none⟩ (.int .i64 y.f2)).setCell ⟨v1.heap.size, 3, none⟩ (.int .i64 y.f3)).setCell ⟨v1.heap.size, 4, none⟩ (.slice A6 y.f4.length c6)).heap[v1.heap.size]? = some (Obj.cells #[.int .i64 y.f0, .string y.f1, .int .i64 y.f2, .int .i64 y.f3, .slice A6 y.f4.length c6] 24) := (blk_put (blk_put (blk_put (blk_put (blk_put vb 0 (.int .i64 y.f0) rfl) 1 (.string y.f1) rfl) 2 (.int .i64 y.f2) rfl) 3 (.int .i64 y.f3) rfl) 4 (.slice A6 y.f4.length c6) rfl)
            have vo : (((((v5.setCell ⟨v1.heap.size, 0, none⟩ (.int .i64 y.f0)).setCell ⟨v1.heap.size, 1, none⟩ (.string y.f1)).setCell ⟨v1.heap.size, 2, none⟩ (.int .i64 y.f2)).setCell ⟨v1.heap.size, 3, none⟩ (.int .i64 y.f3)).setCell ⟨v1.heap.size, 4, none⟩ (.slice A6 y.f4.length c6)).heap[w5.heap.size]? = some (Obj.cells #[.int .i64 x.f0, .string x.f1, .int .i64 x.f2, .int .i64 x.f3, .slice A5 x.f4.length c5] 24) := (blk_far (blk_far (blk_far (blk_far (blk_far V5.out (show w5.heap.size ≠ v1.heap.size from (Ne.symm hne)) _) (show w5.heap.size ≠ v1.heap.size from (Ne.symm hne)) _) (show w5.heap.size ≠ v1.heap.size from (Ne.symm hne)) _) (show w5.heap.size ≠ v1.heap.size from (Ne.symm hne)) _) (show w5.heap.size ≠ v1.heap.size from (Ne.symm hne)) _)
            have hbs : Below w5.heap.size w5 (((((v5.setCell ⟨v1.heap.size, 0, none⟩ (.int .i64 y.f0)).setCell ⟨v1.heap.size, 1, none⟩ (.string y.f1)).setCell ⟨v1.heap.size, 2, none⟩ (.int .i64 y.f2)).setCell ⟨v1.heap.size, 3, none⟩ (.int .i64 y.f3)).setCell ⟨v1.heap.size, 4, none⟩ (.slice A6 y.f4.length c6)) := (below_set (below_set (below_set (below_set (below_set hHeld.2.2.2.2.2.2.2.2.2.2 hge6) hge6) hge6) hge6) hge6)
            have ra2 : Kd.R k24 24 (((((v5.setCell ⟨v1.heap.size, 0, none⟩ (.int .i64 y.f0)).setCell ⟨v1.heap.size, 1, none⟩ (.string y.f1)).setCell ⟨v1.heap.size, 2, none⟩ (.int .i64 y.f2)).setCell ⟨v1.heap.size, 3, none⟩ (.int .i64 y.f3)).setCell ⟨v1.heap.size, 4, none⟩ (.slice A6 y.f4.length c6)) _ _ _ _ := (Kd.R_far (Kd.R_far (Kd.R_far (Kd.R_far (Kd.R_far RA.out (show ∀ k, _ → k ≠ v1.heap.size from fun k hk => by have := Z1.out; have := L5.out; have := Z2.out; have := L6.out; have := Z3.out; have := Z4.out; omega) _) (show ∀ k, _ → k ≠ v1.heap.size from fun k hk => by have := Z1.out; have := L5.out; have := Z2.out; have := L6.out; have := Z3.out; have := Z4.out; omega) _) (show ∀ k, _ → k ≠ v1.heap.size from fun k hk => by have := Z1.out; have := L5.out; have := Z2.out; have := L6.out; have := Z3.out; have := Z4.out; omega) _) (show ∀ k, _ → k ≠ v1.heap.size from fun k hk => by have := Z1.out; have := L5.out; have := Z2.out; have := L6.out; have := Z3.out; have := Z4.out; omega) _) (show ∀ k, _ → k ≠ v1.heap.size from fun k hk => by have := Z1.out; have := L5.out; have := Z2.out; have := L6.out; have := Z3.out; have := Z4.out; omega) _)
            have rb2 : Kd.R k24 24 (((((v5.setCell ⟨v1.heap.size, 0, none⟩ (.int .i64 y.f0)).setCell ⟨v1.heap.size, 1, none⟩ (.string y.f1)).setCell ⟨v1.heap.size, 2, none⟩ (.int .i64 y.f2)).setCell ⟨v1.heap.size, 3, none⟩ (.int .i64 y.f3)).setCell ⟨v1.heap.size, 4, none⟩ (.slice A6 y.f4.length c6)) _ _ _ _ := (Kd.R_far (Kd.R_far (Kd.R_far (Kd.R_far (Kd.R_far RB.out (show ∀ k, _ → k ≠ v1.heap.size from fun k hk => by have := Z1.out; have := L5.out; have := Z2.out; have := L6.out; have := Z3.out; have := Z4.out; omega) _) (show ∀ k, _ → k ≠ v1.heap.size from fun k hk => by have := Z1.out; have := L5.out; have := Z2.out; have := L6.out; have := Z3.out; have := Z4.out; omega) _) (show ∀ k, _ → k ≠ v1.heap.size from fun k hk => by have := Z1.out; have := L5.out; have := Z2.out; have := L6.out; have := Z3.out; have := Z4.out; omega) _) (show ∀ k, _ → k ≠ v1.heap.size from fun k hk => by have := Z1.out; have := L5.out; have := Z2.out; have := L6.out; have := Z3.out; have := Z4.out; omega) _) (show ∀ k, _ → k ≠ v1.heap.size from fun k hk => by have := Z1.out; have := L5.out; have := Z2.out; have := L6.out; have := Z3.out; have := Z4.out; omega) _)
            generalize (((((v5.setCell ⟨v1.heap.size, 0, none⟩ (.int .i64 y.f0)).setCell ⟨v1.heap.size, 1, none⟩ (.string y.f1)).setCell ⟨v1.heap.size, 2, none⟩ (.int .i64 y.f2)).setCell ⟨v1.heap.size, 3, none⟩ (.int .i64 y.f3)).setCell ⟨v1.heap.size, 4, none⟩ (.slice A6 y.f4.length c6)) = v6 at vb2 vo hbs ra2 rb2 ⊢
            clear V5 V6 RA RB
            have V6 := Lib.hid vb2; have V5 := Lib.hid vo; have RA := Lib.hid ra2; have RB := Lib.hid rb2
            clear vb vb2 vo ra2 rb2 u0 u1 u2 u3 u4 z0 z1 z2 z3 z4
            refine hK.out _ _ ?_ (fun hHeld => ?_)
            · (try dsimp only); exact TreeFix.keep10 ⟨a0, a1, a2, a3, a4, b0, b1, b2, b3, b4, Below.refl _ _⟩ hbs
            clear hK K
            (try simp only [Act.put, List.getElem_toArray, List.getElem_cons_succ, List.getElem_cons_zero, List.setIfInBounds_toArray, List.set_cons_zero, List.set_cons_succ])
            refine wpAnyH_done (by kernel_rfl) ?_ _
            exact KEY w5.heap.size v1.heap.size A5 c5 A6 c6 v6 hbs V5.out V6.out (Kd.R_reads' RA.out).2.2 hc5 (Kd.R_reads' RB.out).2.2 hc6
        · (try simp only [List.getElem_toArray, List.getElem_cons_succ, List.getElem_cons_zero])
          go_simp
          have hb : Below w5.drew.heap.size w5.drew (w5.alloc (Obj.cells #[.int .i64 0, .string ⟨#[]⟩, .int .i64 0, .int .i64 0, .slice none 0 0] 24)).drew := below_alloc (Below.refl _ _) _
          have vb : (w5.alloc (Obj.cells #[.int .i64 0, .string ⟨#[]⟩, .int .i64 0, .int .i64 0, .slice none 0 0] 24)).drew.heap[w5.heap.size]? = some (Obj.cells #[.int .i64 0, .string ⟨#[]⟩, .int .i64 0, .int .i64 0, .slice none 0 0] 24) := blk_new _ _
          generalize (w5.alloc (Obj.cells #[.int .i64 0, .string ⟨#[]⟩, .int .i64 0, .int .i64 0, .slice none 0 0] 24)).drew = v1 at hb vb ⊢
          have V6 := Lib.hid vb
          have Z1 := Lib.hid hb.size
          change Hid (w5.heap.size ≤ _) at Z1
          have L6 := Lib.hid (blk_lt vb)
          clear vb
          refine hK.out _ _ ?_ (fun hHeld => ?_)
          · (try dsimp only); exact TreeFix.keep10 hHeld hb
          clear hK K
          (try simp only [Act.put, List.getElem_toArray, List.getElem_cons_succ, List.getElem_cons_zero, List.setIfInBounds_toArray, List.set_cons_zero, List.set_cons_succ])
          refine wpAnyH_ready (rs := [1, 4]) (by kernel_rfl) (by simp) ?_
          refine AllReadyH.cons rfl (fun K hK => ?_) (AllReadyH.cons rfl (fun K hK => ?_) (AllReadyH.nil))
          · (try simp only [List.getElem_toArray, List.getElem_cons_succ, List.getElem_cons_zero])
            go_simp
            refine (tree_Bare.calls qa a.f0 a.f1 a.f2 a.f3 Aa ca a.f4 x.f0 x.f1 x.f2 x.f3 x.f4 _ (Kd.C_below Ca.out hHeld.2.2.2.2.2.2.2.2.2.2) hla Ka.out).mono ?_
            rintro e v2 ⟨v_, rfl, ra, hb⟩
            obtain ⟨A5, c5, rfl, hc5, _⟩ := Kd.R_reads ra
            have RA := Lib.hid (Kd.R_mono (Kd.R_bound ra) (fun k hk => (⟨hk.2.1, hk.2.2.1⟩ : v1.heap.size ≤ k ∧ k < v2.heap.size)))
            clear ra
            have n_ := Lib.hid (blk_below V6.out hb)
            clear V6
            have V6 := n_
            clear n_
            have Z2 := Lib.hid hb.size
            simp only []
            refine hK.out _ _ ?_ (fun hHeld => ?_)
            · (try dsimp only); exact TreeFix.keep10 hHeld hb
            clear hK K
            (try simp only [Act.put, List.getElem_toArray, List.getElem_cons_succ, List.getElem_cons_zero, List.setIfInBounds_toArray, List.set_cons_zero, List.set_cons_succ])
            refine wpAnyH_ready (rs := [3, 4]) (by kernel_rfl) (by simp) ?_
            refine AllReadyH.cons rfl (fun K hK => ?_) (AllReadyH.cons rfl (fun K hK => ?_) (AllReadyH.nil))
            · (try simp only [List.getElem_toArray, List.getElem_cons_succ, List.getElem_cons_zero])
              go_simp
              refine (tree_Bare.calls qb b.f0 b.f1 b.f2 b.f3 Ab cb b.f4 y.f0 y.f1 y.f2 y.f3 y.f4 _ (Kd.C_below Cb.out hHeld.2.2.2.2.2.2.2.2.2.2) hlb Kb.out).mono ?_
              rintro e v3 ⟨v_, rfl, ra, hb⟩
              obtain ⟨A6, c6, rfl, hc6, _⟩ := Kd.R_reads ra
              have RB := Lib.hid (Kd.R_mono (Kd.R_bound ra) (fun k hk => (⟨hk.2.1, hk.2.2.1⟩ : v2.heap.size ≤ k ∧ k < v3.heap.size)))
              clear ra
              have n_ := Lib.hid (Kd.R_below RA.out hb)
              clear RA
              have RA := n_
              clear n_
              have n_ := Lib.hid (blk_below V6.out hb)
              clear V6
              have V6 := n_
              clear n_
              have Z3 := Lib.hid hb.size
              simp only []
              refine hK.out _ _ ?_ (fun hHeld => ?_)
              · (try dsimp only); exact TreeFix.keep10 hHeld hb
              clear hK K
              (try simp only [Act.put, List.getElem_toArray, List.getElem_cons_succ, List.getElem_cons_zero, List.setIfInBounds_toArray, List.set_cons_zero, List.set_cons_succ])
              refine wpAnyH_ready (rs := [4]) (by kernel_rfl) (by simp) ?_
              refine AllReadyH.cons rfl (fun K hK => ?_) (AllReadyH.nil)
              (try simp only [List.getElem_toArray, List.getElem_cons_succ, List.getElem_cons_zero])
              go_simp
              have hb : Below v3.heap.size v3 (v3.alloc (Obj.cells #[.int .i64 0, .string ⟨#[]⟩, .int .i64 0, .int .i64 0, .slice none 0 0] 24)) := below_alloc (Below.refl _ _) _
              have vb : (v3.alloc (Obj.cells #[.int .i64 0, .string ⟨#[]⟩, .int .i64 0, .int .i64 0, .slice none 0 0] 24)).heap[v3.heap.size]? = some (Obj.cells #[.int .i64 0, .string ⟨#[]⟩, .int .i64 0, .int .i64 0, .slice none 0 0] 24) := blk_new _ _
              generalize (v3.alloc (Obj.cells #[.int .i64 0, .string ⟨#[]⟩, .int .i64 0, .int .i64 0, .slice none 0 0] 24)) = v4 at hb vb ⊢
              have n_ := Lib.hid (Kd.R_below RA.out hb)
              clear RA
              have RA := n_
              clear n_
              have n_ := Lib.hid (blk_below V6.out hb)
              clear V6
              have V6 := n_
              clear n_
              have n_ := Lib.hid (Kd.R_below RB.out hb)
              clear RB
              have RB := n_
              clear n_
              have V5 := Lib.hid vb
              have Z4 := Lib.hid hb.size
              have L5 := Lib.hid (blk_lt vb)
              clear vb
              refine hK.out _ _ ?_ (fun hHeld => ?_)
              · (try dsimp only); exact TreeFix.keep10 hHeld hb
              clear hK K
              (try simp only [Act.put, List.getElem_toArray, List.getElem_cons_succ, List.getElem_cons_zero, List.setIfInBounds_toArray, List.set_cons_zero, List.set_cons_succ])
              have hge5 : w5.heap.size ≤ v3.heap.size := by have := Z1.out; have := L6.out; have := Z2.out; have := Z3.out; have := Z4.out; have := L5.out; omega
              have hge6 : w5.heap.size ≤ w5.heap.size := by have := Z1.out; have := L6.out; have := Z2.out; have := Z3.out; have := Z4.out; have := L5.out; omega
              have hne : w5.heap.size ≠ v3.heap.size := by have := Z1.out; have := L6.out; have := Z2.out; have := Z3.out; have := Z4.out; have := L5.out; omega
              have vb := V5.out
              have u0 := blk_cell vb 0
              have u1 := blk_cell vb 1
              have u2 := blk_cell vb 2
              have u3 := blk_cell vb 3
              have u4 := blk_cell vb 4
              simp only [List.getElem?_toArray, List.getElem?_cons_zero, List.getElem?_cons_succ] at u0 u1 u2 u3 u4
              have z0 := blk_frozen vb 0
              have z1 := blk_frozen vb 1
              have z2 := blk_frozen vb 2
              have z3 := blk_frozen vb 3
              have z4 := blk_frozen vb 4
              refine wpAnyH_ready (rs := [6]) (by kernel_rfl) (by simp) ?_
              refine AllReadyH.cons rfl (fun K hK => ?_) (AllReadyH.nil)
              (try simp only [List.getElem_toArray, List.getElem_cons_succ, List.getElem_cons_zero])
              go_simp
              have vb2 : (((((v4.setCell ⟨v3.heap.size, 0, none⟩ (.int .i64 x.f0)).setCell ⟨v3.heap.size, 1, none⟩ (.string x.f1)).setCell ⟨v3.heap.size, 2, none⟩ (.int .i64 x.f2)).setCell ⟨v3.heap.size, 3, none⟩ (.int .i64 x.f3)).setCell ⟨v3.heap.size, 4, none⟩ (.slice A5 x.f4.length c5)).heap[v3.heap.size]? = some (Obj.cells #[.int .i64 x.f0, .string x.f1, .int .i64 x.f2, .int .i64 x.f3, .slice A5 x.f4.length c5] 24) := (blk_put (blk_put (blk_put (blk_put (blk_put vb 0 (.int .i64 x.f0) rfl) 1 (.string x.f1) rfl) 2 (.int .i64 x.f2) rfl) 3 (.int .i64 x.f3) rfl) 4 (.slice A5 x.f4.length c5) rfl)
              have vo : (((((v4.setCell ⟨v3.heap.size, 0, none⟩ (.int .i64 x.f0)).setCell ⟨v3.heap.size, 1, none⟩ (.string x.f1)).setCell ⟨v3.heap.size, 2, none⟩ (.int .i64 x.f2)).setCell ⟨v3.heap.size, 3, none⟩ (.int .i64 x.f3)).setCell ⟨v3.heap.size, 4, none⟩ (.slice A5 x.f4.length c5)).heap[w5.heap.size]? = some (Obj.cells #[.int .i64 0, .string ⟨#[]⟩, .int .i64 0, .int .i64 0, .slice none 0 0] 24) := (blk_far (blk_far (blk_far (blk_far (blk_far V6.out (show w5.heap.size ≠ v3.heap.size from hne) _) (show w5.heap.size ≠ v3.heap.size from hne) _) (show w5.heap.size ≠ v3.heap.size from hne) _) (show w5.heap.size ≠ v3.heap.size from hne) _) (show w5.heap.size ≠ v3.heap.size from hne) _)
              have hbs : Below w5.heap.size w5 (((((v4.setCell ⟨v3.heap.size, 0, none⟩ (.int .i64 x.f0)).setCell ⟨v3.heap.size, 1, none⟩ (.string x.f1)).setCell ⟨v3.heap.size, 2, none⟩ (.int .i64 x.f2)).setCell ⟨v3.heap.size, 3, none⟩ (.int .i64 x.f3)).setCell ⟨v3.heap.size, 4, none⟩ (.slice A5 x.f4.length c5)) := (below_set (below_set (below_set (below_set (below_set hHeld.2.2.2.2.2.2.2.2.2.2 hge5) hge5) hge5) hge5) hge5)
              have ra2 : Kd.R k24 24 (((((v4.setCell ⟨v3.heap.size, 0, none⟩ (.int .i64 x.f0)).setCell ⟨v3.heap.size, 1, none⟩ (.string x.f1)).setCell ⟨v3.heap.size, 2, none⟩ (.int .i64 x.f2)).setCell ⟨v3.heap.size, 3, none⟩ (.int .i64 x.f3)).setCell ⟨v3.heap.size, 4, none⟩ (.slice A5 x.f4.length c5)) _ _ _ _ := (Kd.R_far (Kd.R_far (Kd.R_far (Kd.R_far (Kd.R_far RA.out (show ∀ k, _ → k ≠ v3.heap.size from fun k hk => by have := Z1.out; have := L6.out; have := Z2.out; have := Z3.out; have := Z4.out; have := L5.out; omega) _) (show ∀ k, _ → k ≠ v3.heap.size from fun k hk => by have := Z1.out; have := L6.out; have := Z2.out; have := Z3.out; have := Z4.out; have := L5.out; omega) _) (show ∀ k, _ → k ≠ v3.heap.size from fun k hk => by have := Z1.out; have := L6.out; have := Z2.out; have := Z3.out; have := Z4.out; have := L5.out; omega) _) (show ∀ k, _ → k ≠ v3.heap.size from fun k hk => by have := Z1.out; have := L6.out; have := Z2.out; have := Z3.out; have := Z4.out; have := L5.out; omega) _) (show ∀ k, _ → k ≠ v3.heap.size from fun k hk => by have := Z1.out; have := L6.out; have := Z2.out; have := Z3.out; have := Z4.out; have := L5.out; omega) _)
              have rb2 : Kd.R k24 24 (((((v4.setCell ⟨v3.heap.size, 0, none⟩ (.int .i64 x.f0)).setCell ⟨v3.heap.size, 1, none⟩ (.string x.f1)).setCell ⟨v3.heap.size, 2, none⟩ (.int .i64 x.f2)).setCell ⟨v3.heap.size, 3, none⟩ (.int .i64 x.f3)).setCell ⟨v3.heap.size, 4, none⟩ (.slice A5 x.f4.length c5)) _ _ _ _ := (Kd.R_far (Kd.R_far (Kd.R_far (Kd.R_far (Kd.R_far RB.out (show ∀ k, _ → k ≠ v3.heap.size from fun k hk => by have := Z1.out; have := L6.out; have := Z2.out; have := Z3.out; have := Z4.out; have := L5.out; omega) _) (show ∀ k, _ → k ≠ v3.heap.size from fun k hk => by have := Z1.out; have := L6.out; have := Z2.out; have := Z3.out; have := Z4.out; have := L5.out; omega) _) (show ∀ k, _ → k ≠ v3.heap.size from fun k hk => by have := Z1.out; have := L6.out; have := Z2.out; have := Z3.out; have := Z4.out; have := L5.out; omega) _) (show ∀ k, _ → k ≠ v3.heap.size from fun k hk => by have := Z1.out; have := L6.out; have := Z2.out; have := Z3.out; have := Z4.out; have := L5.out; omega) _) (show ∀ k, _ → k ≠ v3.heap.size from fun k hk => by have := Z1.out; have := L6.out; have := Z2.out; have := Z3.out; have := Z4.out; have := L5.out; omega) _)
              generalize (((((v4.setCell ⟨v3.heap.size, 0, none⟩ (.int .i64 x.f0)).setCell ⟨v3.heap.size, 1, none⟩ (.string x.f1)).setCell ⟨v3.heap.size, 2, none⟩ (.int .i64 x.f2)).setCell ⟨v3.heap.size, 3, none⟩ (.int .i64 x.f3)).setCell ⟨v3.heap.size, 4, none⟩ (.slice A5 x.f4.length c5)) = v5 at vb2 vo hbs ra2 rb2 ⊢
              clear V5 V6 RA RB
              have V5 := Lib.hid vb2; have V6 := Lib.hid vo; have RA := Lib.hid ra2; have RB := Lib.hid rb2
              clear vb vb2 vo ra2 rb2 u0 u1 u2 u3 u4 z0 z1 z2 z3 z4
              refine hK.out _ _ ?_ (fun hHeld => ?_)
              · (try dsimp only); exact TreeFix.keep10 ⟨a0, a1, a2, a3, a4, b0, b1, b2, b3, b4, Below.refl _ _⟩ hbs
              clear hK K
              (try simp only [Act.put, List.getElem_toArray, List.getElem_cons_succ, List.getElem_cons_zero, List.setIfInBounds_toArray, List.set_cons_zero, List.set_cons_succ])
              clear hbs
              have vb := V6.out
              have u0 := blk_cell vb 0
              have u1 := blk_cell vb 1
              have u2 := blk_cell vb 2
              have u3 := blk_cell vb 3
              have u4 := blk_cell vb 4
              simp only [List.getElem?_toArray, List.getElem?_cons_zero, List.getElem?_cons_succ] at u0 u1 u2 u3 u4
              have z0 := blk_frozen vb 0
              have z1 := blk_frozen vb 1
              have z2 := blk_frozen vb 2
              have z3 := blk_frozen vb 3
              have z4 := blk_frozen vb 4
              refine wpAnyH_ready (rs := [7]) (by kernel_rfl) (by simp) ?_
              refine AllReadyH.cons rfl (fun K hK => ?_) (AllReadyH.nil)
              (try simp only [List.getElem_toArray, List.getElem_cons_succ, List.getElem_cons_zero])
              go_simp
              have vb2 : (((((v5.setCell ⟨w5.heap.size, 0, none⟩ (.int .i64 y.f0)).setCell ⟨w5.heap.size, 1, none⟩ (.string y.f1)).setCell ⟨w5.heap.size, 2, none⟩ (.int .i64 y.f2)).setCell ⟨w5.heap.size, 3, none⟩ (.int .i64 y.f3)).setCell ⟨w5.heap.size, 4, none⟩ (.slice A6 y.f4.length c6)).heap[w5.heap.size]? = some (Obj.cells #[.int .i64 y.f0, .string y.f1, .int .i64 y.f2, .int .i64 y.f3, .slice A6 y.f4.length c6] 24) := (blk_put (blk_put (blk_put (blk_put (blk_put vb 0 (.int .i64 y.f0) rfl) 1 (.string y.f1) rfl) 2 (.int .i64 y.f2) rfl) 3 (.int .i64 y.f3) rfl) 4 (.slice A6 y.f4.length c6) rfl)
              have vo : (((((v5.setCell ⟨w5.heap.size, 0, none⟩ (.int .i64 y.f0)).setCell ⟨w5.heap.size, 1, none⟩ (.string y.f1)).setCell ⟨w5.heap.size, 2, none⟩ (.int .i64 y.f2)).setCell ⟨w5.heap.size, 3, none⟩ (.int .i64 y.f3)).setCell ⟨w5.heap.size, 4, none⟩ (.slice A6 y.f4.length c6)).heap[v3.heap.size]? = some (Obj.cells #[.int .i64 x.f0, .string x.f1, .int .i64 x.f2, .int .i64 x.f3, .slice A5 x.f4.length c5] 24) := (blk_far (blk_far (blk_far (blk_far (blk_far V5.out (show v3.heap.size ≠ w5.heap.size from (Ne.symm hne)) _) (show v3.heap.size ≠ w5.heap.size from (Ne.symm hne)) _) (show v3.heap.size ≠ w5.heap.size from (Ne.symm hne)) _) (show v3.heap.size ≠ w5.heap.size from (Ne.symm hne)) _) (show v3.heap.size ≠ w5.heap.size from (Ne.symm hne)) _)
              have hbs : Below w5.heap.size w5 (((((v5.setCell ⟨w5.heap.size, 0, none⟩ (.int .i64 y.f0)).setCell ⟨w5.heap.size, 1, none⟩ (.string y.f1)).setCell ⟨w5.heap.size, 2, none⟩ (.int .i64 y.f2)).setCell ⟨w5.heap.size, 3, none⟩ (.int .i64 y.f3)).setCell ⟨w5.heap.size, 4, none⟩ (.slice A6 y.f4.length c6)) := (below_set (below_set (below_set (below_set (below_set hHeld.2.2.2.2.2.2.2.2.2.2 hge6) hge6) hge6) hge6) hge6)
              have ra2 : Kd.R k24 24 (((((v5.setCell ⟨w5.heap.size, 0, none⟩ (.int .i64 y.f0)).setCell ⟨w5.heap.size, 1, none⟩ (.string y.f1)).setCell ⟨w5.heap.size, 2, none⟩ (.int .i64 y.f2)).setCell ⟨w5.heap.size, 3, none⟩ (.int .i64 y.f3)).setCell ⟨w5.heap.size, 4, none⟩ (.slice A6 y.f4.length c6)) _ _ _ _ := (Kd.R_far (Kd.R_far (Kd.R_far (Kd.R_far (Kd.R_far RA.out (show ∀ k, _ → k ≠ w5.heap.size from fun k hk => by have := Z1.out; have := L6.out; have := Z2.out; have := Z3.out; have := Z4.out; have := L5.out; omega) _) (show ∀ k, _ → k ≠ w5.heap.size from fun k hk => by have := Z1.out; have := L6.out; have := Z2.out; have := Z3.out; have := Z4.out; have := L5.out; omega) _) (show ∀ k, _ → k ≠ w5.heap.size from fun k hk => by have := Z1.out; have := L6.out; have := Z2.out; have := Z3.out; have := Z4.out; have := L5.out; omega) _) (show ∀ k, _ → k ≠ w5.heap.size from fun k hk => by have := Z1.out; have := L6.out; have := Z2.out; have := Z3.out; have := Z4.out; have := L5.out; omega) _) (show ∀ k, _ → k ≠ w5.heap.size from fun k hk => by have := Z1.out; have := L6.out; have := Z2.out; have := Z3.out; have := Z4.out; have := L5.out; omega) _)
              have rb2 : Kd.R k24 24 (((((v5.setCell ⟨w5.heap.size, 0, none⟩ (.int .i64 y.f0)).setCell ⟨w5.heap.size, 1, none⟩ (.string y.f1)).setCell ⟨w5.heap.size, 2, none⟩ (.int .i64 y.f2)).setCell ⟨w5.heap.size, 3, none⟩ (.int .i64 y.f3)).setCell ⟨w5.heap.size, 4, none⟩ (.slice A6 y.f4.length c6)) _ _ _ _ := (Kd.R_far (Kd.R_far (Kd.R_far (Kd.R_far (Kd.R_far RB.out (show ∀ k, _ → k ≠ w5.heap.size from fun k hk => by have := Z1.out; have := L6.out; have := Z2.out; have := Z3.out; have := Z4.out; have := L5.out; omega) _) (show ∀ k, _ → k ≠ w5.heap.size from fun k hk => by have := Z1.out; have := L6.out; have := Z2.out; have := Z3.out; have := Z4.out; have := L5.out; omega) _) (show ∀ k, _ → k ≠ w5.heap.size from fun k hk => by have := Z1.out; have := L6.out; have := Z2.out; have := Z3.out; have := Z4.out; have := L5.out; omega) _) (show ∀ k, _ → k ≠ w5.heap.size from fun k hk => by have := Z1.out; have := L6.out; have := Z2.out; have := Z3.out; have := Z4.out; have := L5.out; omega) _) (show ∀ k, _ → k ≠ w5.heap.size from fun k hk => by have := Z1.out; have := L6.out; have := Z2.out; have := Z3.out; have := Z4.out; have := L5.out; omega) _)
              generalize (((((v5.setCell ⟨w5.heap.size, 0, none⟩ (.int .i64 y.f0)).setCell ⟨w5.heap.size, 1, none⟩ (.string y.f1)).setCell ⟨w5.heap.size, 2, none⟩ (.int .i64 y.f2)).setCell ⟨w5.heap.size, 3, none⟩ (.int .i64 y.f3)).setCell ⟨w5.heap.size, 4, none⟩ (.slice A6 y.f4.length c6)) = v6 at vb2 vo hbs ra2 rb2 ⊢
              clear V5 V6 RA RB
              have V6 := Lib.hid vb2; have V5 := Lib.hid vo; have RA := Lib.hid ra2; have RB := Lib.hid rb2
              clear vb vb2 vo ra2 rb2 u0 u1 u2 u3 u4 z0 z1 z2 z3 z4
              refine hK.out _ _ ?_ (fun hHeld => ?_)
              · (try dsimp only); exact TreeFix.keep10 ⟨a0, a1, a2, a3, a4, b0, b1, b2, b3, b4, Below.refl _ _⟩ hbs
              clear hK K
              (try simp only [Act.put, List.getElem_toArray, List.getElem_cons_succ, List.getElem_cons_zero, List.setIfInBounds_toArray, List.set_cons_zero, List.set_cons_succ])
              refine wpAnyH_done (by kernel_rfl) ?_ _
              exact KEY v3.heap.size w5.heap.size A5 c5 A6 c6 v6 hbs V5.out V6.out (Kd.R_reads' RA.out).2.2 hc5 (Kd.R_reads' RB.out).2.2 hc6
            · (try simp only [List.getElem_toArray, List.getElem_cons_succ, List.getElem_cons_zero])
              go_simp
              have hb : Below v2.heap.size v2 (v2.alloc (Obj.cells #[.int .i64 0, .string ⟨#[]⟩, .int .i64 0, .int .i64 0, .slice none 0 0] 24)) := below_alloc (Below.refl _ _) _
              have vb : (v2.alloc (Obj.cells #[.int .i64 0, .string ⟨#[]⟩, .int .i64 0, .int .i64 0, .slice none 0 0] 24)).heap[v2.heap.size]? = some (Obj.cells #[.int .i64 0, .string ⟨#[]⟩, .int .i64 0, .int .i64 0, .slice none 0 0] 24) := blk_new _ _
              generalize (v2.alloc (Obj.cells #[.int .i64 0, .string ⟨#[]⟩, .int .i64 0, .int .i64 0, .slice none 0 0] 24)) = v3 at hb vb ⊢
              have n_ := Lib.hid (Kd.R_below RA.out hb)
              clear RA
              have RA := n_
              clear n_
              have n_ := Lib.hid (blk_below V6.out hb)
              clear V6
              have V6 := n_
              clear n_
              have V5 := Lib.hid vb
              have Z3 := Lib.hid hb.size
              have L5 := Lib.hid (blk_lt vb)
              clear vb
              refine hK.out _ _ ?_ (fun hHeld => ?_)
              · (try dsimp only); exact TreeFix.keep10 hHeld hb
              clear hK K
              (try simp only [Act.put, List.getElem_toArray, List.getElem_cons_succ, List.getElem_cons_zero, List.setIfInBounds_toArray, List.set_cons_zero, List.set_cons_succ])
              refine wpAnyH_ready (rs := [3]) (by kernel_rfl) (by simp) ?_
              refine AllReadyH.cons rfl (fun K hK => ?_) (AllReadyH.nil)
              (try simp only [List.getElem_toArray, List.getElem_cons_succ, List.getElem_cons_zero])
              go_simp
              refine (tree_Bare.calls qb b.f0 b.f1 b.f2 b.f3 Ab cb b.f4 y.f0 y.f1 y.f2 y.f3 y.f4 _ (Kd.C_below Cb.out hHeld.2.2.2.2.2.2.2.2.2.2) hlb Kb.out).mono ?_
              rintro e v4 ⟨v_, rfl, ra, hb⟩
              obtain ⟨A6, c6, rfl, hc6, _⟩ := Kd.R_reads ra
              have RB := Lib.hid (Kd.R_mono (Kd.R_bound ra) (fun k hk => (⟨hk.2.1, hk.2.2.1⟩ : v3.heap.size ≤ k ∧ k < v4.heap.size)))
              clear ra
              have n_ := Lib.hid (Kd.R_below RA.out hb)
              clear RA
              have RA := n_
              clear n_
              have n_ := Lib.hid (blk_below V6.out hb)
              clear V6
              have V6 := n_
              clear n_
              have n_ := Lib.hid (blk_below V5.out hb)
              clear V5
              have V5 := n_
              clear n_
              have Z4 := Lib.hid hb.size
              simp only []
              refine hK.out _ _ ?_ (fun hHeld => ?_)
              · (try dsimp only); exact TreeFix.keep10 hHeld hb
              clear hK K
              (try simp only [Act.put, List.getElem_toArray, List.getElem_cons_succ, List.getElem_cons_zero, List.setIfInBounds_toArray, List.set_cons_zero, List.set_cons_succ])
              have hge5 : w5.heap.size ≤ v2.heap.size := by have := Z1.out; have := L6.out; have := Z2.out; have := Z3.out; have := L5.out; have := Z4.out; omega
              have hge6 : w5.heap.size ≤ w5.heap.size := by have := Z1.out; have := L6.out; have := Z2.out; have := Z3.out; have := L5.out; have := Z4.out; omega
              have hne : w5.heap.size ≠ v2.heap.size := by have := Z1.out; have := L6.out; have := Z2.out; have := Z3.out; have := L5.out; have := Z4.out; omega
              have vb := V5.out
              have u0 := blk_cell vb 0
              have u1 := blk_cell vb 1
              have u2 := blk_cell vb 2
              have u3 := blk_cell vb 3
              have u4 := blk_cell vb 4
              simp only [List.getElem?_toArray, List.getElem?_cons_zero, List.getElem?_cons_succ] at u0 u1 u2 u3 u4
              have z0 := blk_frozen vb 0
              have z1 := blk_frozen vb 1
              have z2 := blk_frozen vb 2
              have z3 := blk_frozen vb 3
              have z4 := blk_frozen vb 4
              refine wpAnyH_ready (rs := [6]) (by kernel_rfl) (by simp) ?_
              refine AllReadyH.cons rfl (fun K hK => ?_) (AllReadyH.nil)
              (try simp only [List.getElem_toArray, List.getElem_cons_succ, List.getElem_cons_zero])
              go_simp
              have vb2 : (((((v4.setCell ⟨v2.heap.size, 0, none⟩ (.int .i64 x.f0)).setCell ⟨v2.heap.size, 1, none⟩ (.string x.f1)).setCell ⟨v2.heap.size, 2, none⟩ (.int .i64 x.f2)).setCell ⟨v2.heap.size, 3, none⟩ (.int .i64 x.f3)).setCell ⟨v2.heap.size, 4, none⟩ (.slice A5 x.f4.length c5)).heap[v2.heap.size]? = some (Obj.cells #[.int .i64 x.f0, .string x.f1, .int .i64 x.f2, .int .i64 x.f3, .slice A5 x.f4.length c5] 24) := (blk_put (blk_put (blk_put (blk_put (blk_put vb 0 (.int .i64 x.f0) rfl) 1 (.string x.f1) rfl) 2 (.int .i64 x.f2) rfl) 3 (.int .i64 x.f3) rfl) 4 (.slice A5 x.f4.length c5) rfl)
              have vo : (((((v4.setCell ⟨v2.heap.size, 0, none⟩ (.int .i64 x.f0)).setCell ⟨v2.heap.size, 1, none⟩ (.string x.f1)).setCell ⟨v2.heap.size, 2, none⟩ (.int .i64 x.f2)).setCell ⟨v2.heap.size, 3, none⟩ (.int .i64 x.f3)).setCell ⟨v2.heap.size, 4, none⟩ (.slice A5 x.f4.length c5)).heap[w5.heap.size]? = some (Obj.cells #[.int .i64 0, .string ⟨#[]⟩, .int .i64 0, .int .i64 0, .slice none 0 0] 24) := (blk_far (blk_far (blk_far (blk_far (blk_far V6.out (show w5.heap.size ≠ v2.heap.size from hne) _) (show w5.heap.size ≠ v2.heap.size from hne) _) (show w5.heap.size ≠ v2.heap.size from hne) _) (show w5.heap.size ≠ v2.heap.size from hne) _) (show w5.heap.size ≠ v2.heap.size from hne) _)
              have hbs : Below w5.heap.size w5 (((((v4.setCell ⟨v2.heap.size, 0, none⟩ (.int .i64 x.f0)).setCell ⟨v2.heap.size, 1, none⟩ (.string x.f1)).setCell ⟨v2.heap.size, 2, none⟩ (.int .i64 x.f2)).setCell ⟨v2.heap.size, 3, none⟩ (.int .i64 x.f3)).setCell ⟨v2.heap.size, 4, none⟩ (.slice A5 x.f4.length c5)) := (below_set (below_set (below_set (below_set (below_set hHeld.2.2.2.2.2.2.2.2.2.2 hge5) hge5) hge5) hge5) hge5)
              have ra2 : Kd.R k24 24 (((((v4.setCell ⟨v2.heap.size, 0, none⟩ (.int .i64 x.f0)).setCell ⟨v2.heap.size, 1, none⟩ (.string x.f1)).setCell ⟨v2.heap.size, 2, none⟩ (.int .i64 x.f2)).setCell ⟨v2.heap.size, 3, none⟩ (.int .i64 x.f3)).setCell ⟨v2.heap.size, 4, none⟩ (.slice A5 x.f4.length c5)) _ _ _ _ := (Kd.R_far (Kd.R_far (Kd.R_far (Kd.R_far (Kd.R_far RA.out (show ∀ k, _ → k ≠ v2.heap.size from fun k hk => by have := Z1.out; have := L6.out; have := Z2.out; have := Z3.out; have := L5.out; have := Z4.out; omega) _) (show ∀ k, _ → k ≠ v2.heap.size from fun k hk => by have := Z1.out; have := L6.out; have := Z2.out; have := Z3.out; have := L5.out; have := Z4.out; omega) _) (show ∀ k, _ → k ≠ v2.heap.size from fun k hk => by have := Z1.out; have := L6.out; have := Z2.out; have := Z3.out; have := L5.out; have := Z4.out; omega) _) (show ∀ k, _ → k ≠ v2.heap.size from fun k hk => by have := Z1.out; have := L6.out; have := Z2.out; have := Z3.out; have := L5.out; have := Z4.out; omega) _) (show ∀ k, _ → k ≠ v2.heap.size from fun k hk => by have := Z1.out; have := L6.out; have := Z2.out; have := Z3.out; have := L5.out; have := Z4.out; omega) _)
              have rb2 : Kd.R k24 24 (((((v4.setCell ⟨v2.heap.size, 0, none⟩ (.int .i64 x.f0)).setCell ⟨v2.heap.size, 1, none⟩ (.string x.f1)).setCell ⟨v2.heap.size, 2, none⟩ (.int .i64 x.f2)).setCell ⟨v2.heap.size, 3, none⟩ (.int .i64 x.f3)).setCell ⟨v2.heap.size, 4, none⟩ (.slice A5 x.f4.length c5)) _ _ _ _ := (Kd.R_far (Kd.R_far (Kd.R_far (Kd.R_far (Kd.R_far RB.out (show ∀ k, _ → k ≠ v2.heap.size from fun k hk => by have := Z1.out; have := L6.out; have := Z2.out; have := Z3.out; have := L5.out; have := Z4.out; omega) _) (show ∀ k, _ → k ≠ v2.heap.size from fun k hk => by have := Z1.out; have := L6.out; have := Z2.out; have := Z3.out; have := L5.out; have := Z4.out; omega) _) (show ∀ k, _ → k ≠ v2.heap.size from fun k hk => by have := Z1.out; have := L6.out; have := Z2.out; have := Z3.out; have := L5.out; have := Z4.out; omega) _) (show ∀ k, _ → k ≠ v2.heap.size from fun k hk => by have := Z1.out; have := L6.out; have := Z2.out; have := Z3.out; have := L5.out; have := Z4.out; omega) _) (show ∀ k, _ → k ≠ v2.heap.size from fun k hk => by have := Z1.out; have := L6.out; have := Z2.out; have := Z3.out; have := L5.out; have := Z4.out; omega) _)
              generalize (((((v4.setCell ⟨v2.heap.size, 0, none⟩ (.int .i64 x.f0)).setCell ⟨v2.heap.size, 1, none⟩ (.string x.f1)).setCell ⟨v2.heap.size, 2, none⟩ (.int .i64 x.f2)).setCell ⟨v2.heap.size, 3, none⟩ (.int .i64 x.f3)).setCell ⟨v2.heap.size, 4, none⟩ (.slice A5 x.f4.length c5)) = v5 at vb2 vo hbs ra2 rb2 ⊢
              clear V5 V6 RA RB
              have V5 := Lib.hid vb2; have V6 := Lib.hid vo; have RA := Lib.hid ra2; have RB := Lib.hid rb2
              clear vb vb2 vo ra2 rb2 u0 u1 u2 u3 u4 z0 z1 z2 z3 z4
              refine hK.out _ _ ?_ (fun hHeld => ?_)
              · (try dsimp only); exact TreeFix.keep10 ⟨a0, a1, a2, a3, a4, b0, b1, b2, b3, b4, Below.refl _ _⟩ hbs
              clear hK K
              (try simp only [Act.put, List.getElem_toArray, List.getElem_cons_succ, List.getElem_cons_zero, List.setIfInBounds_toArray, List.set_cons_zero, List.set_cons_succ])
              clear hbs
              have vb := V6.out
              have u0 := blk_cell vb 0
              have u1 := blk_cell vb 1
              have u2 := blk_cell vb 2
              have u3 := blk_cell vb 3
              have u4 := blk_cell vb 4
              simp only [List.getElem?_toArray, List.getElem?_cons_zero, List.getElem?_cons_succ] at u0 u1 u2 u3 u4
              have z0 := blk_frozen vb 0
              have z1 := blk_frozen vb 1
              have z2 := blk_frozen vb 2
              have z3 := blk_frozen vb 3
              have z4 := blk_frozen vb 4
              refine wpAnyH_ready (rs := [7]) (by kernel_rfl) (by simp) ?_
              refine AllReadyH.cons rfl (fun K hK => ?_) (AllReadyH.nil)
              (try simp only [List.getElem_toArray, List.getElem_cons_succ, List.getElem_cons_zero])
              go_simp
              have vb2 : (((((v5.setCell ⟨w5.heap.size, 0, none⟩ (.int .i64 y.f0)).setCell ⟨w5.heap.size, 1, none⟩ (.string y.f1)).setCell ⟨w5.heap.size, 2, none⟩ (.int .i64 y.f2)).setCell ⟨w5.heap.size, 3, none⟩ (.int .i64 y.f3)).setCell ⟨w5.heap.size, 4, none⟩ (.slice A6 y.f4.length c6)).heap[w5.heap.size]? = some (Obj.cells #[.int .i64 y.f0, .string y.f1, .int .i64 y.f2, .int .i64 y.f3, .slice A6 y.f4.length c6] 24) := (blk_put (blk_put (blk_put (blk_put (blk_put vb 0 (.int .i64 y.f0) rfl) 1 (.string y.f1) rfl) 2 (.int .i64 y.f2) rfl) 3 (.int .i64 y.f3) rfl) 4 (.slice A6 y.f4.length c6) rfl)
              have vo : (((((v5.setCell ⟨w5.heap.size, 0, none⟩ (.int .i64 y.f0)).setCell ⟨w5.heap.size, 1, none⟩ (.string y.f1)).setCell ⟨w5.heap.size, 2, none⟩ (.int .i64 y.f2)).setCell ⟨w5.heap.size, 3, none⟩ (.int .i64 y.f3)).setCell ⟨w5.heap.size, 4, none⟩ (.slice A6 y.f4.length c6)).heap[v2.heap.size]? = some (Obj.cells #[.int .i64 x.f0, .string x.f1, .int .i64 x.f2, .int .i64 x.f3, .slice A5 x.f4.length c5] 24) := (blk_far (blk_far (blk_far (blk_far (blk_far V5.out (show v2.heap.size ≠ w5.heap.size from (Ne.symm hne)) _) (show v2.heap.size ≠ w5.heap.size from (Ne.symm hne)) _) (show v2.heap.size ≠ w5.heap.size from (Ne.symm hne)) _) (show v2.heap.size ≠ w5.heap.size from (Ne.symm hne)) _) (show v2.heap.size ≠ w5.heap.size from (Ne.symm hne)) _)
              have hbs : Below w5.heap.size w5 (((((v5.setCell ⟨w5.heap.size, 0, none⟩ (.int .i64 y.f0)).setCell ⟨w5.heap.size, 1, none⟩ (.string y.f1)).setCell ⟨w5.heap.size, 2, none⟩ (.int .i64 y.f2)).setCell ⟨w5.heap.size, 3, none⟩ (.int .i64 y.f3)).setCell ⟨w5.heap.size, 4, none⟩ (.slice A6 y.f4.length c6)) := (below_set (below_set (below_set (below_set (below_set hHeld.2.2.2.2.2.2.2.2.2.2 hge6) hge6) hge6) hge6) hge6)
              have ra2 : Kd.R k24 24 (((((v5.setCell ⟨w5.heap.size, 0, none⟩ (.int .i64 y.f0)).setCell ⟨w5.heap.size, 1, none⟩ (.string y.f1)).setCell ⟨w5.heap.size, 2, none⟩ (.int .i64 y.f2)).setCell ⟨w5.heap.size, 3, none⟩ (.int .i64 y.f3)).setCell ⟨w5.heap.size, 4, none⟩ (.slice A6 y.f4.length c6)) _ _ _ _ := (Kd.R_far (Kd.R_far (Kd.R_far (Kd.R_far (Kd.R_far RA.out (show ∀ k, _ → k ≠ w5.heap.size from fun k hk => by have := Z1.out; have := L6.out; have := Z2.out; have := Z3.out; have := L5.out; have := Z4.out; omega) _) (show ∀ k, _ → k ≠ w5.heap.size from fun k hk => by have := Z1.out; have := L6.out; have := Z2.out; have := Z3.out; have := L5.out; have := Z4.out; omega) _) (show ∀ k, _ → k ≠ w5.heap.size from fun k hk => by have := Z1.out; have := L6.out; have := Z2.out; have := Z3.out; have := L5.out; have := Z4.out; omega) _) (show ∀ k, _ → k ≠ w5.heap.size from fun k hk => by have := Z1.out; have := L6.out; have := Z2.out; have := Z3.out; have := L5.out; have := Z4.out; omega) _) (show ∀ k, _ → k ≠ w5.heap.size from fun k hk => by have := Z1.out; have := L6.out; have := Z2.out; have := Z3.out; have := L5.out; have := Z4.out; omega) _)
              have rb2 : Kd.R k24 24 (((((v5.setCell ⟨w5.heap.size, 0, none⟩ (.int .i64 y.f0)).setCell ⟨w5.heap.size, 1, none⟩ (.string y.f1)).setCell ⟨w5.heap.size, 2, none⟩ (.int .i64 y.f2)).setCell ⟨w5.heap.size, 3, none⟩ (.int .i64 y.f3)).setCell ⟨w5.heap.size, 4, none⟩ (.slice A6 y.f4.length c6)) _ _ _ _ := (Kd.R_far (Kd.R_far (Kd.R_far (Kd.R_far (Kd.R_far RB.out (show ∀ k, _ → k ≠ w5.heap.size from fun k hk => by have := Z1.out; have := L6.out; have := Z2.out; have := Z3.out; have := L5.out; have := Z4.out; omega) _) (show ∀ k, _ → k ≠ w5.heap.size from fun k hk => by have := Z1.out; have := L6.out; have := Z2.out; have := Z3.out; have := L5.out; have := Z4.out; omega) _) (show ∀ k, _ → k ≠ w5.heap.size from fun k hk => by have := Z1.out; have := L6.out; have := Z2.out; have := Z3.out; have := L5.out; have := Z4.out; omega) _) (show ∀ k, _ → k ≠ w5.heap.size from fun k hk => by have := Z1.out; have := L6.out; have := Z2.out; have := Z3.out; have := L5.out; have := Z4.out; omega) _) (show ∀ k, _ → k ≠ w5.heap.size from fun k hk => by have := Z1.out; have := L6.out; have := Z2.out; have := Z3.out; have := L5.out; have := Z4.out; omega) _)
              generalize (((((v5.setCell ⟨w5.heap.size, 0, none⟩ (.int .i64 y.f0)).setCell ⟨w5.heap.size, 1, none⟩ (.string y.f1)).setCell ⟨w5.heap.size, 2, none⟩ (.int .i64 y.f2)).setCell ⟨w5.heap.size, 3, none⟩ (.int .i64 y.f3)).setCell ⟨w5.heap.size, 4, none⟩ (.slice A6 y.f4.length c6)) = v6 at vb2 vo hbs ra2 rb2 ⊢
              clear V5 V6 RA RB
              have V6 := Lib.hid vb2; have V5 := Lib.hid vo; have RA := Lib.hid ra2; have RB := Lib.hid rb2
              clear vb vb2 vo ra2 rb2 u0 u1 u2 u3 u4 z0 z1 z2 z3 z4
              refine hK.out _ _ ?_ (fun hHeld => ?_)
              · (try dsimp only); exact TreeFix.keep10 ⟨a0, a1, a2, a3, a4, b0, b1, b2, b3, b4, Below.refl _ _⟩ hbs
              clear hK K
              (try simp only [Act.put, List.getElem_toArray, List.getElem_cons_succ, List.getElem_cons_zero, List.setIfInBounds_toArray, List.set_cons_zero, List.set_cons_succ])
              refine wpAnyH_done (by kernel_rfl) ?_ _
              exact KEY v2.heap.size w5.heap.size A5 c5 A6 c6 v6 hbs V5.out V6.out (Kd.R_reads' RA.out).2.2 hc5 (Kd.R_reads' RB.out).2.2 hc6
          · (try simp only [List.getElem_toArray, List.getElem_cons_succ, List.getElem_cons_zero])
            go_simp
            have hb : Below v1.heap.size v1 (v1.alloc (Obj.cells #[.int .i64 0, .string ⟨#[]⟩, .int .i64 0, .int .i64 0, .slice none 0 0] 24)) := below_alloc (Below.refl _ _) _
            have vb : (v1.alloc (Obj.cells #[.int .i64 0, .string ⟨#[]⟩, .int .i64 0, .int .i64 0, .slice none 0 0] 24)).heap[v1.heap.size]? = some (Obj.cells #[.int .i64 0, .string ⟨#[]⟩, .int .i64 0, .int .i64 0, .slice none 0 0] 24) := blk_new _ _
            generalize (v1.alloc (Obj.cells #[.int .i64 0, .string ⟨#[]⟩, .int .i64 0, .int .i64 0, .slice none 0 0] 24)) = v2 at hb vb ⊢
            have n_ := Lib.hid (blk_below V6.out hb)
            clear V6
            have V6 := n_
            clear n_
            have V5 := Lib.hid vb
            have Z2 := Lib.hid hb.size
            have L5 := Lib.hid (blk_lt vb)
            clear vb
            refine hK.out _ _ ?_ (fun hHeld => ?_)
            · (try dsimp only); exact TreeFix.keep10 hHeld hb
            clear hK K
            (try simp only [Act.put, List.getElem_toArray, List.getElem_cons_succ, List.getElem_cons_zero, List.setIfInBounds_toArray, List.set_cons_zero, List.set_cons_succ])
            refine wpAnyH_ready (rs := [1]) (by kernel_rfl) (by simp) ?_
            refine AllReadyH.cons rfl (fun K hK => ?_) (AllReadyH.nil)
            (try simp only [List.getElem_toArray, List.getElem_cons_succ, List.getElem_cons_zero])
            go_simp
            refine (tree_Bare.calls qa a.f0 a.f1 a.f2 a.f3 Aa ca a.f4 x.f0 x.f1 x.f2 x.f3 x.f4 _ (Kd.C_below Ca.out hHeld.2.2.2.2.2.2.2.2.2.2) hla Ka.out).mono ?_
            rintro e v3 ⟨v_, rfl, ra, hb⟩
            obtain ⟨A5, c5, rfl, hc5, _⟩ := Kd.R_reads ra
            have RA := Lib.hid (Kd.R_mono (Kd.R_bound ra) (fun k hk => (⟨hk.2.1, hk.2.2.1⟩ : v2.heap.size ≤ k ∧ k < v3.heap.size)))
            clear ra
            have n_ := Lib.hid (blk_below V6.out hb)
            clear V6
            have V6 := n_
            clear n_
            have n_ := Lib.hid (blk_below V5.out hb)
            clear V5
            have V5 := n_
            clear n_
            have Z3 := Lib.hid hb.size
            simp only []
            refine hK.out _ _ ?_ (fun hHeld => ?_)
            · (try dsimp only); exact TreeFix.keep10 hHeld hb
            clear hK K
            (try simp only [Act.put, List.getElem_toArray, List.getElem_cons_succ, List.getElem_cons_zero, List.setIfInBounds_toArray, List.set_cons_zero, List.set_cons_succ])
            refine wpAnyH_ready (rs := [3]) (by kernel_rfl) (by simp) ?_
            refine AllReadyH.cons rfl (fun K hK => ?_) (AllReadyH.nil)
            (try simp only [List.getElem_toArray, List.getElem_cons_succ, List.getElem_cons_zero])
            go_simp
            refine (tree_Bare.calls qb b.f0 b.f1 b.f2 b.f3 Ab cb b.f4 y.f0 y.f1 y.f2 y.f3 y.f4 _ (Kd.C_below Cb.out hHeld.2.2.2.2.2.2.2.2.2.2) hlb Kb.out).mono ?_
            rintro e v4 ⟨v_, rfl, ra, hb⟩
            obtain ⟨A6, c6, rfl, hc6, _⟩ := Kd.R_reads ra
            have RB := Lib.hid (Kd.R_mono (Kd.R_bound ra) (fun k hk => (⟨hk.2.1, hk.2.2.1⟩ : v3.heap.size ≤ k ∧ k < v4.heap.size)))
            clear ra
            have n_ := Lib.hid (Kd.R_below RA.out hb)
            clear RA
            have RA := n_
            clear n_
            have n_ := Lib.hid (blk_below V6.out hb)
            clear V6
            have V6 := n_
            clear n_
            have n_ := Lib.hid (blk_below V5.out hb)
            clear V5
            have V5 := n_
            clear n_
            have Z4 := Lib.hid hb.size
            simp only []
            refine hK.out _ _ ?_ (fun hHeld => ?_)
            · (try dsimp only); exact TreeFix.keep10 hHeld hb
            clear hK K
            (try simp only [Act.put, List.getElem_toArray, List.getElem_cons_succ, List.getElem_cons_zero, List.setIfInBounds_toArray, List.set_cons_zero, List.set_cons_succ])
            have hge5 : w5.heap.size ≤ v1.heap.size := by have := Z1.out; have := L6.out; have := Z2.out; have := L5.out; have := Z3.out; have := Z4.out; omega
            have hge6 : w5.heap.size ≤ w5.heap.size := by have := Z1.out; have := L6.out; have := Z2.out; have := L5.out; have := Z3.out; have := Z4.out; omega
            have hne : w5.heap.size ≠ v1.heap.size := by have := Z1.out; have := L6.out; have := Z2.out; have := L5.out; have := Z3.out; have := Z4.out; omega
            have vb := V5.out
            have u0 := blk_cell vb 0
            have u1 := blk_cell vb 1
            have u2 := blk_cell vb 2
            have u3 := blk_cell vb 3
            have u4 := blk_cell vb 4
            simp only [List.getElem?_toArray, List.getElem?_cons_zero, List.getElem?_cons_succ] at u0 u1 u2 u3 u4
            have z0 := blk_frozen vb 0
            have z1 := blk_frozen vb 1
            have z2 := blk_frozen vb 2
            have z3 := blk_frozen vb 3
            have z4 := blk_frozen vb 4
            refine wpAnyH_ready (rs := [6]) (by kernel_rfl) (by simp) ?_
            refine AllReadyH.cons rfl (fun K hK => ?_) (AllReadyH.nil)
            (try simp only [List.getElem_toArray, List.getElem_cons_succ, List.getElem_cons_zero])
            go_simp
            have vb2 : (((((v4.setCell ⟨v1.heap.size, 0, none⟩ (.int .i64 x.f0)).setCell ⟨v1.heap.size, 1, none⟩ (.string x.f1)).setCell ⟨v1.heap.size, 2, none⟩ (.int .i64 x.f2)).setCell ⟨v1.heap.size, 3, none⟩ (.int .i64 x.f3)).setCell ⟨v1.heap.size, 4, none⟩ (.slice A5 x.f4.length c5)).heap[v1.heap.size]? = some (Obj.cells #[.int .i64 x.f0, .string x.f1, .int .i64 x.f2, .int .i64 x.f3, .slice A5 x.f4.length c5] 24) := (blk_put (blk_put (blk_put (blk_put (blk_put vb 0 (.int .i64 x.f0) rfl) 1 (.string x.f1) rfl) 2 (.int .i64 x.f2) rfl) 3 (.int .i64 x.f3) rfl) 4 (.slice A5 x.f4.length c5) rfl)
            have vo : (((((v4.setCell ⟨v1.heap.size, 0, none⟩ (.int .i64 x.f0)).setCell ⟨v1.heap.size, 1, none⟩ (.string x.f1)).setCell ⟨v1.heap.size, 2, none⟩ (.int .i64 x.f2)).setCell ⟨v1.heap.size, 3, none⟩ (.int .i64 x.f3)).setCell ⟨v1.heap.size, 4, none⟩ (.slice A5 x.f4.length c5)).heap[w5.heap.size]? = some (Obj.cells #[.int .i64 0, .string ⟨#[]⟩, .int .i64 0, .int .i64 0, .slice none 0 0] 24) := (blk_far (blk_far (blk_far (blk_far (blk_far V6.out (show w5.heap.size ≠ v1.heap.size from hne) _) (show w5.heap.size ≠ v1.heap.size from hne) _) (show w5.heap.size ≠ v1.heap.size from hne) _) (show w5.heap.size ≠ v1.heap.size from hne) _) (show w5.heap.size ≠ v1.heap.size from hne) _)
            have hbs : Below w5.heap.size w5 (((((v4.setCell ⟨v1.heap.size, 0, none⟩ (.int .i64 x.f0)).setCell ⟨v1.heap.size, 1, none⟩ (.string x.f1)).setCell ⟨v1.heap.size, 2, none⟩ (.int .i64 x.f2)).setCell ⟨v1.heap.size, 3, none⟩ (.int .i64 x.f3)).setCell ⟨v1.heap.size, 4, none⟩ (.slice A5 x.f4.length c5)) := (below_set (below_set (below_set (below_set (below_set hHeld.2.2.2.2.2.2.2.2.2.2 hge5) hge5) hge5) hge5) hge5)
            have ra2 : Kd.R k24 24 (((((v4.setCell ⟨v1.heap.size, 0, none⟩ (.int .i64 x.f0)).setCell ⟨v1.heap.size, 1, none⟩ (.string x.f1)).setCell ⟨v1.heap.size, 2, none⟩ (.int .i64 x.f2)).setCell ⟨v1.heap.size, 3, none⟩ (.int .i64 x.f3)).setCell ⟨v1.heap.size, 4, none⟩ (.slice A5 x.f4.length c5)) _ _ _ _ := (Kd.R_far (Kd.R_far (Kd.R_far (Kd.R_far (Kd.R_far RA.out (show ∀ k, _ → k ≠ v1.heap.size from fun k hk => by have := Z1.out; have := L6.out; have := Z2.out; have := L5.out; have := Z3.out; have := Z4.out; omega) _) (show ∀ k, _ → k ≠ v1.heap.size from fun k hk => by have := Z1.out; have := L6.out; have := Z2.out; have := L5.out; have := Z3.out; have := Z4.out; omega) _) (show ∀ k, _ → k ≠ v1.heap.size from fun k hk => by have := Z1.out; have := L6.out; have := Z2.out; have := L5.out; have := Z3.out; have := Z4.out; omega) _) (show ∀ k, _ → k ≠ v1.heap.size from fun k hk => by have := Z1.out; have := L6.out; have := Z2.out; have := L5.out; have := Z3.out; have := Z4.out; omega) _) (show ∀ k, _ → k ≠ v1.heap.size from fun k hk => by have := Z1.out; have := L6.out; have := Z2.out; have := L5.out; have := Z3.out; have := Z4.out; omega) _)
            have rb2 : Kd.R k24 24 (((((v4.setCell ⟨v1.heap.size, 0, none⟩ (.int .i64 x.f0)).setCell ⟨v1.heap.size, 1, none⟩ (.string x.f1)).setCell ⟨v1.heap.size, 2, none⟩ (.int .i64 x.f2)).setCell ⟨v1.heap.size, 3, none⟩ (.int .i64 x.f3)).setCell ⟨v1.heap.size, 4, none⟩ (.slice A5 x.f4.length c5)) _ _ _ _ := (Kd.R_far (Kd.R_far (Kd.R_far (Kd.R_far (Kd.R_far RB.out (show ∀ k, _ → k ≠ v1.heap.size from fun k hk => by have := Z1.out; have := L6.out; have := Z2.out; have := L5.out; have := Z3.out; have := Z4.out; omega) _) (show ∀ k, _ → k ≠ v1.heap.size from fun k hk => by have := Z1.out; have := L6.out; have := Z2.out; have := L5.out; have := Z3.out; have := Z4.out; omega) _) (show ∀ k, _ → k ≠ v1.heap.size from fun k hk => by have := Z1.out; have := L6.out; have := Z2.out; have := L5.out; have := Z3.out; have := Z4.out; omega) _) (show ∀ k, _ → k ≠ v1.heap.size from fun k hk => by have := Z1.out; have := L6.out; have := Z2.out; have := L5.out; have := Z3.out; have := Z4.out; omega) _) (show ∀ k, _ → k ≠ v1.heap.size from fun k hk => by have := Z1.out; have := L6.out; have := Z2.out; have := L5.out; have := Z3.out; have := Z4.out; omega) _)
            generalize (((((v4.setCell ⟨v1.heap.size, 0, none⟩ (.int .i64 x.f0)).setCell ⟨v1.heap.size, 1, none⟩ (.string x.f1)).setCell ⟨v1.heap.size, 2, none⟩ (.int .i64 x.f2)).setCell ⟨v1.heap.size, 3, none⟩ (.int .i64 x.f3)).setCell ⟨v1.heap.size, 4, none⟩ (.slice A5 x.f4.length c5)) = v5 at vb2 vo hbs ra2 rb2 ⊢
            clear V5 V6 RA RB
            have V5 := Lib.hid vb2; have V6 := Lib.hid vo; have RA := Lib.hid ra2; have RB := Lib.hid rb2
            clear vb vb2 vo ra2 rb2 u0 u1 u2 u3 u4 z0 z1 z2 z3 z4
            refine hK.out _ _ ?_ (fun hHeld => ?_)
            · (try dsimp only); exact TreeFix.keep10 ⟨a0, a1, a2, a3, a4, b0, b1, b2, b3, b4, Below.refl _ _⟩ hbs
            clear hK K
            (try simp only [Act.put, List.getElem_toArray, List.getElem_cons_succ, List.getElem_cons_zero, List.setIfInBounds_toArray, List.set_cons_zero, List.set_cons_succ])
            clear hbs
            have vb := V6.out
            have u0 := blk_cell vb 0
            have u1 := blk_cell vb 1
            have u2 := blk_cell vb 2
            have u3 := blk_cell vb 3
            have u4 := blk_cell vb 4
            simp only [List.getElem?_toArray, List.getElem?_cons_zero, List.getElem?_cons_succ] at u0 u1 u2 u3 u4
            have z0 := blk_frozen vb 0
            have z1 := blk_frozen vb 1
            have z2 := blk_frozen vb 2
            have z3 := blk_frozen vb 3
            have z4 := blk_frozen vb 4
            refine wpAnyH_ready (rs := [7]) (by kernel_rfl) (by simp) ?_
            refine AllReadyH.cons rfl (fun K hK => ?_) (AllReadyH.nil)
            (try simp only [List.getElem_toArray, List.getElem_cons_succ, List.getElem_cons_zero])
            go_simp
            have vb2 : (((((v5.setCell ⟨w5.heap.size, 0, none⟩ (.int .i64 y.f0)).setCell ⟨w5.heap.size, 1, none⟩ (.string y.f1)).setCell ⟨w5.heap.size, 2, none⟩ (.int .i64 y.f2)).setCell ⟨w5.heap.size, 3, none⟩ (.int .i64 y.f3)).setCell ⟨w5.heap.size, 4, none⟩ (.slice A6 y.f4.length c6)).heap[w5.heap.size]? = some (Obj.cells #[.int .i64 y.f0, .string y.f1, .int .i64 y.f2, .int .i64 y.f3, .slice A6 y.f4.length c6] 24) := (blk_put (blk_put (blk_put (blk_put (blk_put vb 0 (.int .i64 y.f0) rfl) 1 (.string y.f1) rfl) 2 (.int .i64 y.f2) rfl) 3 (.int .i64 y.f3) rfl) 4 (.slice A6 y.f4.length c6) rfl)
            have vo : (((((v5.setCell ⟨w5.heap.size, 0, none⟩ (.int .i64 y.f0)).setCell ⟨w5.heap.size, 1, none⟩ (.string y.f1)).setCell ⟨w5.heap.size, 2, none⟩ (.int .i64 y.f2)).setCell ⟨w5.heap.size, 3, none⟩ (.int .i64 y.f3)).setCell ⟨w5.heap.size, 4, none⟩ (.slice A6 y.f4.length c6)).heap[v1.heap.size]? = some (Obj.cells #[.int .i64 x.f0, .string x.f1, .int .i64 x.f2, .int .i64 x.f3, .slice A5 x.f4.length c5] 24) := (blk_far (blk_far (blk_far (blk_far (blk_far V5.out (show v1.heap.size ≠ w5.heap.size from (Ne.symm hne)) _) (show v1.heap.size ≠ w5.heap.size from (Ne.symm hne)) _) (show v1.heap.size ≠ w5.heap.size from (Ne.symm hne)) _) (show v1.heap.size ≠ w5.heap.size from (Ne.symm hne)) _) (show v1.heap.size ≠ w5.heap.size from (Ne.symm hne)) _)
            have hbs : Below w5.heap.size w5 (((((v5.setCell ⟨w5.heap.size, 0, none⟩ (.int .i64 y.f0)).setCell ⟨w5.heap.size, 1, none⟩ (.string y.f1)).setCell ⟨w5.heap.size, 2, none⟩ (.int .i64 y.f2)).setCell ⟨w5.heap.size, 3, none⟩ (.int .i64 y.f3)).setCell ⟨w5.heap.size, 4, none⟩ (.slice A6 y.f4.length c6)) := (below_set (below_set (below_set (below_set (below_set hHeld.2.2.2.2.2.2.2.2.2.2 hge6) hge6) hge6) hge6) hge6)
            have ra2 : Kd.R k24 24 (((((v5.setCell ⟨w5.heap.size, 0, none⟩ (.int .i64 y.f0)).setCell ⟨w5.heap.size, 1, none⟩ (.string y.f1)).setCell ⟨w5.heap.size, 2, none⟩ (.int .i64 y.f2)).setCell ⟨w5.heap.size, 3, none⟩ (.int .i64 y.f3)).setCell ⟨w5.heap.size, 4, none⟩ (.slice A6 y.f4.length c6)) _ _ _ _ := (Kd.R_far (Kd.R_far (Kd.R_far (Kd.R_far (Kd.R_far RA.out (show ∀ k, _ → k ≠ w5.heap.size from fun k hk => by have := Z1.out; have := L6.out; have := Z2.out; have := L5.out; have := Z3.out; have := Z4.out; omega) _) (show ∀ k, _ → k ≠ w5.heap.size from fun k hk => by have := Z1.out; have := L6.out; have := Z2.out; have := L5.out; have := Z3.out; have := Z4.out; omega) _) (show ∀ k, _ → k ≠ w5.heap.size from fun k hk => by have := Z1.out; have := L6.out; have := Z2.out; have := L5.out; have := Z3.out; have := Z4.out; omega) _) (show ∀ k, _ → k ≠ w5.heap.size from fun k hk => by have := Z1.out; have := L6.out; have := Z2.out; have := L5.out; have := Z3.out; have := Z4.out; omega) _) (show ∀ k, _ → k ≠ w5.heap.size from fun k hk => by have := Z1.out; have := L6.out; have := Z2.out; have := L5.out; have := Z3.out; have := Z4.out; omega) _)
            have rb2 : Kd.R k24 24 (((((v5.setCell ⟨w5.heap.size, 0, none⟩ (.int .i64 y.f0)).setCell ⟨w5.heap.size, 1, none⟩ (.string y.f1)).setCell ⟨w5.heap.size, 2, none⟩ (.int .i64 y.f2)).setCell ⟨w5.heap.size, 3, none⟩ (.int .i64 y.f3)).setCell ⟨w5.heap.size, 4, none⟩ (.slice A6 y.f4.length c6)) _ _ _ _ := (Kd.R_far (Kd.R_far (Kd.R_far (Kd.R_far (Kd.R_far RB.out (show ∀ k, _ → k ≠ w5.heap.size from fun k hk => by have := Z1.out; have := L6.out; have := Z2.out; have := L5.out; have := Z3.out; have := Z4.out; omega) _) (show ∀ k, _ → k ≠ w5.heap.size from fun k hk => by have := Z1.out; have := L6.out; have := Z2.out; have := L5.out; have := Z3.out; have := Z4.out; omega) _) (show ∀ k, _ → k ≠ w5.heap.size from fun k hk => by have := Z1.out; have := L6.out; have := Z2.out; have := L5.out; have := Z3.out; have := Z4.out; omega) _) (show ∀ k, _ → k ≠ w5.heap.size from fun k hk => by have := Z1.out; have := L6.out; have := Z2.out; have := L5.out; have := Z3.out; have := Z4.out; omega) _) (show ∀ k, _ → k ≠ w5.heap.size from fun k hk => by have := Z1.out; have := L6.out; have := Z2.out; have := L5.out; have := Z3.out; have := Z4.out; omega) _)
            generalize (((((v5.setCell ⟨w5.heap.size, 0, none⟩ (.int .i64 y.f0)).setCell ⟨w5.heap.size, 1, none⟩ (.string y.f1)).setCell ⟨w5.heap.size, 2, none⟩ (.int .i64 y.f2)).setCell ⟨w5.heap.size, 3, none⟩ (.int .i64 y.f3)).setCell ⟨w5.heap.size, 4, none⟩ (.slice A6 y.f4.length c6)) = v6 at vb2 vo hbs ra2 rb2 ⊢
            clear V5 V6 RA RB
            have V6 := Lib.hid vb2; have V5 := Lib.hid vo; have RA := Lib.hid ra2; have RB := Lib.hid rb2
            clear vb vb2 vo ra2 rb2 u0 u1 u2 u3 u4 z0 z1 z2 z3 z4
            refine hK.out _ _ ?_ (fun hHeld => ?_)
            · (try dsimp only); exact TreeFix.keep10 ⟨a0, a1, a2, a3, a4, b0, b1, b2, b3, b4, Below.refl _ _⟩ hbs
            clear hK K
            (try simp only [Act.put, List.getElem_toArray, List.getElem_cons_succ, List.getElem_cons_zero, List.setIfInBounds_toArray, List.set_cons_zero, List.set_cons_succ])
            refine wpAnyH_done (by kernel_rfl) ?_ _
            exact KEY v1.heap.size w5.heap.size A5 c5 A6 c6 v6 hbs V5.out V6.out (Kd.R_reads' RA.out).2.2 hc5 (Kd.R_reads' RB.out).2.2 hc6
      intro g5 g6 A5 c5 A6 c6 wz hbz vx vy cx hc5 cy hc6
      refine hK0 _ _ ?_
      have hb := hbz
      have Bx := Lib.hid vx; have By := Lib.hid vy; have Cx := Lib.hid cx; have Cy := Lib.hid cy
      clear hbz vx vy cx cy
      have n0_ := Lib.hid (below_step HB.out hb)
      have nCa := Lib.hid (Kd.C_below Ca.out hb); have nBa := Lib.hid (blk_below Ba.out hb)
      have nCb := Lib.hid (Kd.C_below Cb.out hb); have nBb := Lib.hid (blk_below Bb.out hb)
      clear HB hb Ca Ba Cb Bb a0 a1 a2 a3 a4 b0 b1 b2 b3 b4
      have HB := n0_
      have Ca := nCa; have Ba := nBa
      have Cb := nCb; have Bb := nBb
      clear n0_ nCa nBa nCb nBb
      have a0 := blk_cell Ba.out 0
      have a1 := blk_cell Ba.out 1
      have a2 := blk_cell Ba.out 2
      have a3 := blk_cell Ba.out 3
      have a4 := blk_cell Ba.out 4
      have b0 := blk_cell Bb.out 0
      have b1 := blk_cell Bb.out 1
      have b2 := blk_cell Bb.out 2
      have b3 := blk_cell Bb.out 3
      have b4 := blk_cell Bb.out 4
      simp only [List.getElem?_toArray, List.getElem?_cons_zero, List.getElem?_cons_succ] at a0 a1 a2 a3 a4 b0 b1 b2 b3 b4
      have x0 := blk_cell Bx.out 0
      have x1 := blk_cell Bx.out 1
      have x2 := blk_cell Bx.out 2
      have x3 := blk_cell Bx.out 3
      have x4 := blk_cell Bx.out 4
      have y0 := blk_cell By.out 0
      have y1 := blk_cell By.out 1
      have y2 := blk_cell By.out 2
      have y3 := blk_cell By.out 3
      have y4 := blk_cell By.out 4
      simp only [List.getElem?_toArray, List.getElem?_cons_zero, List.getElem?_cons_succ] at x0 x1 x2 x3 x4 y0 y1 y2 y3 y4
      have szx : size x ≤ 1000000000 := by rw [← Hx.out, TreeOne.size_bare]; exact sza
      have szy : size y ≤ 1000000000 := by rw [← Hy.out, TreeOne.size_bare]; exact szb
      have hwx : wt x ≤ 1048576 := by rw [← Hx.out, TreeOne.wt_bare]; exact hwa
      have hwy : wt y ≤ 1048576 := by rw [← Hy.out, TreeOne.wt_bare]; exact hwb
      obtain ⟨qx, hqx⟩ := (TreeOne.bare_ev _ x (Nat.le_refl _) szx).rounds
      have hxx : bare x = x := by rw [← Hx.out, TreeOne.bare_bare]
      rw [hxx] at hqx
      have KX := Lib.hid hqx
      clear hqx hxx
      obtain ⟨sab, VS⟩ : ∃ q, Hid (same a b = q) := ⟨_, Lib.hid rfl⟩
      have HOX : Hid (one x y = sab) := Lib.hid (by rw [← Hx.out, ← Hy.out, TreeOne.one_bare, VS.out])
      have VBA : Hid (same b a = sab) := Lib.hid (by rw [TreeOne.same_comm, VS.out])
      have VAX : Hid (same a x = true) := Lib.hid (by rw [← Hx.out]; exact TreeOne.same_bare a)
      have HOO : Hid (one x x = true) := Lib.hid (TreeOne.one_refl x)
      go_wp2_with fail
      refine ((TreeSm.same_any _ a (Nat.le_refl _) (by omega) b _ _ _ _ _ Ca.out hla Cb.out hlb).mono fun e w' h => (⟨h.1.trans (by rw [VS.out]), h.2⟩ : e = .returned (.bool sab) ∧ _)).mono ?_
      rintro e w8 ⟨rfl, hb⟩
      have n0_ := Lib.hid (below_step HB.out hb)
      have nCa := Lib.hid (Kd.C_below Ca.out hb); have nBa := Lib.hid (blk_below Ba.out hb)
      have nCb := Lib.hid (Kd.C_below Cb.out hb); have nBb := Lib.hid (blk_below Bb.out hb)
      have nCx := Lib.hid (Kd.C_below Cx.out hb); have nBx := Lib.hid (blk_below Bx.out hb)
      have nCy := Lib.hid (Kd.C_below Cy.out hb); have nBy := Lib.hid (blk_below By.out hb)
      clear HB hb Ca Ba Cb Bb Cx Bx Cy By a0 a1 a2 a3 a4 b0 b1 b2 b3 b4 x0 x1 x2 x3 x4 y0 y1 y2 y3 y4
      have HB := n0_
      have Ca := nCa; have Ba := nBa
      have Cb := nCb; have Bb := nBb
      have Cx := nCx; have Bx := nBx
      have Cy := nCy; have By := nBy
      clear n0_ nCa nBa nCb nBb nCx nBx nCy nBy
      have a0 := blk_cell Ba.out 0
      have a1 := blk_cell Ba.out 1
      have a2 := blk_cell Ba.out 2
      have a3 := blk_cell Ba.out 3
      have a4 := blk_cell Ba.out 4
      have b0 := blk_cell Bb.out 0
      have b1 := blk_cell Bb.out 1
      have b2 := blk_cell Bb.out 2
      have b3 := blk_cell Bb.out 3
      have b4 := blk_cell Bb.out 4
      have x0 := blk_cell Bx.out 0
      have x1 := blk_cell Bx.out 1
      have x2 := blk_cell Bx.out 2
      have x3 := blk_cell Bx.out 3
      have x4 := blk_cell Bx.out 4
      have y0 := blk_cell By.out 0
      have y1 := blk_cell By.out 1
      have y2 := blk_cell By.out 2
      have y3 := blk_cell By.out 3
      have y4 := blk_cell By.out 4
      simp only [List.getElem?_toArray, List.getElem?_cons_zero, List.getElem?_cons_succ] at a0 a1 a2 a3 a4 b0 b1 b2 b3 b4 x0 x1 x2 x3 x4 y0 y1 y2 y3 y4
      cases sab with
      | false =>
        go_upto_region 5 with (fail)
        refine wp_region_held_drew (S := (fun w' => w'.cell? ⟨w.heap.size, 0, none⟩ = some (.int .i64 a.f0) ∧ w'.cell? ⟨w.heap.size, 1, none⟩ = some (.string a.f1) ∧ w'.cell? ⟨w.heap.size, 2, none⟩ = some (.int .i64 a.f2) ∧ w'.cell? ⟨w.heap.size, 3, none⟩ = some (.int .i64 a.f3) ∧ w'.cell? ⟨w.heap.size, 4, none⟩ = some (.slice Aa a.f4.length ca) ∧ w'.cell? ⟨w.heap.size + 1, 0, none⟩ = some (.int .i64 b.f0) ∧ w'.cell? ⟨w.heap.size + 1, 1, none⟩ = some (.string b.f1) ∧ w'.cell? ⟨w.heap.size + 1, 2, none⟩ = some (.int .i64 b.f2) ∧ w'.cell? ⟨w.heap.size + 1, 3, none⟩ = some (.int .i64 b.f3) ∧ w'.cell? ⟨w.heap.size + 1, 4, none⟩ = some (.slice Ab b.f4.length cb) ∧ w'.cell? ⟨g5, 0, none⟩ = some (.int .i64 x.f0) ∧ w'.cell? ⟨g5, 1, none⟩ = some (.string x.f1) ∧ w'.cell? ⟨g5, 2, none⟩ = some (.int .i64 x.f2) ∧ w'.cell? ⟨g5, 3, none⟩ = some (.int .i64 x.f3) ∧ w'.cell? ⟨g5, 4, none⟩ = some (.slice A5 x.f4.length c5) ∧ w'.cell? ⟨g6, 0, none⟩ = some (.int .i64 y.f0) ∧ w'.cell? ⟨g6, 1, none⟩ = some (.string y.f1) ∧ w'.cell? ⟨g6, 2, none⟩ = some (.int .i64 y.f2) ∧ w'.cell? ⟨g6, 3, none⟩ = some (.int .i64 y.f3) ∧ w'.cell? ⟨g6, 4, none⟩ = some (.slice A6 y.f4.length c6) ∧ Below w8.heap.size w8 w')) (by kernel_rfl) (by (try dsimp only); exact keepS20 ⟨a0, a1, a2, a3, a4, b0, b1, b2, b3, b4, x0, x1, x2, x3, x4, y0, y1, y2, y3, y4, Below.refl _ _⟩ (below_drew1 (Below.refl _ _))) (fun hHeld => ?_)
        change wpAnyH _ _ _ _ _ 25 #[false, false, false, false, false, false, false, false, false, false, false, false, false, false, false, false, false, false, false, false, false, false, false, false, false] _ _
        refine wpAnyH_take (i := 0) (v := ?_) rfl (by kernel_rfl) (by kernel_rfl) (by kernel_rfl) (fun _ _ _ h => h) (Or.inl ⟨by kernel_rfl, ?_⟩) (by assumption) ?_
        rotate_left 1
        · (intro w hSw; (try dsimp only at hSw); (try simp only [List.getElem_toArray, List.getElem_cons_succ, List.getElem_cons_zero]); go_simp; (try with_reducible rfl))
        (try simp only [Act.put, List.getElem_toArray, List.getElem_cons_succ, List.getElem_cons_zero, List.setIfInBounds_toArray, List.set_cons_zero, List.set_cons_succ])
        refine wpAnyH_take (i := 1) (v := ?_) rfl (by kernel_rfl) (by kernel_rfl) (by kernel_rfl) (fun _ _ _ h => h) (Or.inl ⟨by kernel_rfl, ?_⟩) (by assumption) ?_
        rotate_left 1
        · (intro w hSw; (try dsimp only at hSw); (try simp only [List.getElem_toArray, List.getElem_cons_succ, List.getElem_cons_zero]); go_simp; (try with_reducible rfl))
        (try simp only [Act.put, List.getElem_toArray, List.getElem_cons_succ, List.getElem_cons_zero, List.setIfInBounds_toArray, List.set_cons_zero, List.set_cons_succ])
        refine wpAnyH_take (i := 2) (v := ?_) rfl (by kernel_rfl) (by kernel_rfl) (by kernel_rfl) (fun _ _ _ h => h) (Or.inl ⟨by kernel_rfl, ?_⟩) (by assumption) ?_
        rotate_left 1
        · (intro w hSw; (try dsimp only at hSw); (try simp only [List.getElem_toArray, List.getElem_cons_succ, List.getElem_cons_zero]); go_simp; (try with_reducible rfl))
        (try simp only [Act.put, List.getElem_toArray, List.getElem_cons_succ, List.getElem_cons_zero, List.setIfInBounds_toArray, List.set_cons_zero, List.set_cons_succ])
        refine wpAnyH_ready (rs := [3]) (by kernel_rfl) (by simp) ?_
        refine AllReadyH.cons rfl (fun K hK => ?_) AllReadyH.nil
        (try simp only [List.getElem_toArray, List.getElem_cons_succ, List.getElem_cons_zero])
        go_simp
        obtain ⟨kk, hkk⟩ := (TreeOne.one_ev _ x (Nat.le_refl _) szx y).rounds
        rw [HOX.out] at hkk
        refine (gossamerref02_One.calls kk x.f0 x.f1 x.f2 x.f3 _ _ x.f4 y.f0 y.f1 y.f2 y.f3 _ _ y.f4 false _ (Kd.C_below Cx.out hHeld.2.2.2.2.2.2.2.2.2.2.2.2.2.2.2.2.2.2.2.2) hc5 (Kd.C_below Cy.out hHeld.2.2.2.2.2.2.2.2.2.2.2.2.2.2.2.2.2.2.2.2) hc6 hkk).mono ?_
        rintro e w9 ⟨rfl, hb⟩
        clear hkk
        simp only []
        refine hK.out _ _ ?_ (fun hHeld => ?_)
        · (try dsimp only); exact keepS20 hHeld hb
        clear hK K
        (try simp only [Act.put, List.getElem_toArray, List.getElem_cons_succ, List.getElem_cons_zero, List.setIfInBounds_toArray, List.set_cons_zero, List.set_cons_succ])
        refine wpAnyH_take (i := 4) (v := ?_) rfl (by kernel_rfl) (by kernel_rfl) (by kernel_rfl) (fun _ _ _ h => h) (Or.inl ⟨by kernel_rfl, ?_⟩) (by assumption) ?_
        rotate_left 1
        · (intro w hSw; (try dsimp only at hSw); (try simp only [List.getElem_toArray, List.getElem_cons_succ, List.getElem_cons_zero]); go_simp; (try with_reducible rfl))
        (try simp only [Act.put, List.getElem_toArray, List.getElem_cons_succ, List.getElem_cons_zero, List.setIfInBounds_toArray, List.set_cons_zero, List.set_cons_succ])
        refine wpAnyH_take (i := 5) (v := ?_) rfl (by kernel_rfl) (by kernel_rfl) (by kernel_rfl) (fun _ _ _ h => h) (Or.inl ⟨by kernel_rfl, ?_⟩) (by assumption) ?_
        rotate_left 1
        · (intro w hSw; (try dsimp only at hSw); (try simp only [List.getElem_toArray, List.getElem_cons_succ, List.getElem_cons_zero]); go_simp; (try with_reducible rfl))
        (try simp only [Act.put, List.getElem_toArray, List.getElem_cons_succ, List.getElem_cons_zero, List.setIfInBounds_toArray, List.set_cons_zero, List.set_cons_succ])
        refine wpAnyH_take (i := 6) (v := ?_) rfl (by kernel_rfl) (by kernel_rfl) (by kernel_rfl) (fun _ _ _ h => h) (Or.inl ⟨by kernel_rfl, ?_⟩) (by assumption) ?_
        rotate_left 1
        · (intro w hSw; (try dsimp only at hSw); (try simp only [List.getElem_toArray, List.getElem_cons_succ, List.getElem_cons_zero]); go_simp; (try with_reducible rfl))
        (try simp only [Act.put, List.getElem_toArray, List.getElem_cons_succ, List.getElem_cons_zero, List.setIfInBounds_toArray, List.set_cons_zero, List.set_cons_succ])
        refine wpAnyH_take (i := 7) (v := ?_) rfl (by kernel_rfl) (by kernel_rfl) (by kernel_rfl) (fun _ _ _ h => h) (Or.inl ⟨by kernel_rfl, ?_⟩) (by assumption) ?_
        rotate_left 1
        · (intro w hSw; (try dsimp only at hSw); (try simp only [List.getElem_toArray, List.getElem_cons_succ, List.getElem_cons_zero]); go_simp; (try with_reducible rfl))
        (try simp only [Act.put, List.getElem_toArray, List.getElem_cons_succ, List.getElem_cons_zero, List.setIfInBounds_toArray, List.set_cons_zero, List.set_cons_succ])
        refine wpAnyH_take (i := 8) (v := ?_) rfl (by kernel_rfl) (by kernel_rfl) (by kernel_rfl) (fun _ _ _ h => h) (Or.inl ⟨by kernel_rfl, ?_⟩) (by assumption) ?_
        rotate_left 1
        · (intro w hSw; (try dsimp only at hSw); (try simp only [List.getElem_toArray, List.getElem_cons_succ, List.getElem_cons_zero]); go_simp; (try with_reducible rfl))
        (try simp only [Act.put, List.getElem_toArray, List.getElem_cons_succ, List.getElem_cons_zero, List.setIfInBounds_toArray, List.set_cons_zero, List.set_cons_succ])
        refine wpAnyH_ready (rs := [9]) (by kernel_rfl) (by simp) ?_
        refine AllReadyH.cons rfl (fun K hK => ?_) AllReadyH.nil
        (try simp only [List.getElem_toArray, List.getElem_cons_succ, List.getElem_cons_zero])
        go_simp
        refine ((TreeSm.same_any _ b (Nat.le_refl _) (by omega) a _ _ _ _ _ (Kd.C_below Cb.out hHeld.2.2.2.2.2.2.2.2.2.2.2.2.2.2.2.2.2.2.2.2) hlb (Kd.C_below Ca.out hHeld.2.2.2.2.2.2.2.2.2.2.2.2.2.2.2.2.2.2.2.2) hla).mono fun e w' h => (⟨h.1.trans (by rw [VBA.out]), h.2⟩ : e = .returned (.bool false) ∧ _)).mono ?_
        rintro e w9 ⟨rfl, hb⟩
        simp only []
        refine hK.out _ _ ?_ (fun hHeld => ?_)
        · (try dsimp only); exact keepS20 hHeld hb
        clear hK K
        (try simp only [Act.put, List.getElem_toArray, List.getElem_cons_succ, List.getElem_cons_zero, List.setIfInBounds_toArray, List.set_cons_zero, List.set_cons_succ])
        refine wpAnyH_take (i := 10) (v := ?_) rfl (by kernel_rfl) (by kernel_rfl) (by kernel_rfl) (fun _ _ _ h => h) (Or.inl ⟨by kernel_rfl, ?_⟩) (by assumption) ?_
        rotate_left 1
        · (intro w hSw; (try dsimp only at hSw); (try simp only [List.getElem_toArray, List.getElem_cons_succ, List.getElem_cons_zero]); go_simp; (try with_reducible rfl))
        (try simp only [Act.put, List.getElem_toArray, List.getElem_cons_succ, List.getElem_cons_zero, List.setIfInBounds_toArray, List.set_cons_zero, List.set_cons_succ])
        refine wpAnyH_take (i := 11) (v := ?_) rfl (by kernel_rfl) (by kernel_rfl) (by kernel_rfl) (fun _ _ _ h => h) (Or.inl ⟨by kernel_rfl, ?_⟩) (by assumption) ?_
        rotate_left 1
        · (intro w hSw; (try dsimp only at hSw); (try simp only [List.getElem_toArray, List.getElem_cons_succ, List.getElem_cons_zero]); go_simp; (try with_reducible rfl))
        (try simp only [Act.put, List.getElem_toArray, List.getElem_cons_succ, List.getElem_cons_zero, List.setIfInBounds_toArray, List.set_cons_zero, List.set_cons_succ])
        refine wpAnyH_take (i := 12) (v := ?_) rfl (by kernel_rfl) (by kernel_rfl) (by kernel_rfl) (fun _ _ _ h => h) (Or.inl ⟨by kernel_rfl, ?_⟩) (by assumption) ?_
        rotate_left 1
        · (intro w hSw; (try dsimp only at hSw); (try simp only [List.getElem_toArray, List.getElem_cons_succ, List.getElem_cons_zero]); go_simp; (try with_reducible rfl))
        (try simp only [Act.put, List.getElem_toArray, List.getElem_cons_succ, List.getElem_cons_zero, List.setIfInBounds_toArray, List.set_cons_zero, List.set_cons_succ])
        refine wpAnyH_take (i := 13) (v := ?_) rfl (by kernel_rfl) (by kernel_rfl) (by kernel_rfl) (fun _ _ _ h => h) (Or.inl ⟨by kernel_rfl, ?_⟩) (by assumption) ?_
        rotate_left 1
        · (intro w hSw; (try dsimp only at hSw); (try simp only [List.getElem_toArray, List.getElem_cons_succ, List.getElem_cons_zero]); go_simp; (try with_reducible rfl))
        (try simp only [Act.put, List.getElem_toArray, List.getElem_cons_succ, List.getElem_cons_zero, List.setIfInBounds_toArray, List.set_cons_zero, List.set_cons_succ])
        refine wpAnyH_take (i := 14) (v := ?_) rfl (by kernel_rfl) (by kernel_rfl) (by kernel_rfl) (fun _ _ _ h => h) (Or.inl ⟨by kernel_rfl, ?_⟩) (by assumption) ?_
        rotate_left 1
        · (intro w hSw; (try dsimp only at hSw); (try simp only [List.getElem_toArray, List.getElem_cons_succ, List.getElem_cons_zero]); go_simp; (try with_reducible rfl))
        (try simp only [Act.put, List.getElem_toArray, List.getElem_cons_succ, List.getElem_cons_zero, List.setIfInBounds_toArray, List.set_cons_zero, List.set_cons_succ])
        refine wpAnyH_ready (rs := [15]) (by kernel_rfl) (by simp) ?_
        refine AllReadyH.cons rfl (fun K hK => ?_) AllReadyH.nil
        (try simp only [List.getElem_toArray, List.getElem_cons_succ, List.getElem_cons_zero])
        go_simp
        refine ((TreeSm.same_any _ a (Nat.le_refl _) (by omega) x _ _ _ _ _ (Kd.C_below Ca.out hHeld.2.2.2.2.2.2.2.2.2.2.2.2.2.2.2.2.2.2.2.2) hla (Kd.C_below Cx.out hHeld.2.2.2.2.2.2.2.2.2.2.2.2.2.2.2.2.2.2.2.2) hc5).mono fun e w' h => (⟨h.1.trans (by rw [VAX.out]), h.2⟩ : e = .returned (.bool true) ∧ _)).mono ?_
        rintro e w9 ⟨rfl, hb⟩
        simp only []
        refine hK.out _ _ ?_ (fun hHeld => ?_)
        · (try dsimp only); exact keepS20 hHeld hb
        clear hK K
        (try simp only [Act.put, List.getElem_toArray, List.getElem_cons_succ, List.getElem_cons_zero, List.setIfInBounds_toArray, List.set_cons_zero, List.set_cons_succ])
        refine wpAnyH_take (i := 16) (v := ?_) rfl (by kernel_rfl) (by kernel_rfl) (by kernel_rfl) (fun _ _ _ h => h) (Or.inl ⟨by kernel_rfl, ?_⟩) (by assumption) ?_
        rotate_left 1
        · (intro w hSw; (try dsimp only at hSw); (try simp only [List.getElem_toArray, List.getElem_cons_succ, List.getElem_cons_zero]); go_simp; (try with_reducible rfl))
        (try simp only [Act.put, List.getElem_toArray, List.getElem_cons_succ, List.getElem_cons_zero, List.setIfInBounds_toArray, List.set_cons_zero, List.set_cons_succ])
        refine wpAnyH_take (i := 17) (v := ?_) rfl (by kernel_rfl) (by kernel_rfl) (by kernel_rfl) (fun _ _ _ h => h) (Or.inl ⟨by kernel_rfl, ?_⟩) (by assumption) ?_
        rotate_left 1
        · (intro w hSw; (try dsimp only at hSw); (try simp only [List.getElem_toArray, List.getElem_cons_succ, List.getElem_cons_zero]); go_simp; (try with_reducible rfl))
        (try simp only [Act.put, List.getElem_toArray, List.getElem_cons_succ, List.getElem_cons_zero, List.setIfInBounds_toArray, List.set_cons_zero, List.set_cons_succ])
        refine wpAnyH_take (i := 18) (v := ?_) rfl (by kernel_rfl) (by kernel_rfl) (by kernel_rfl) (fun _ _ _ h => h) (Or.inl ⟨by kernel_rfl, ?_⟩) (by assumption) ?_
        rotate_left 1
        · (intro w hSw; (try dsimp only at hSw); (try simp only [List.getElem_toArray, List.getElem_cons_succ, List.getElem_cons_zero]); go_simp; (try with_reducible rfl))
        (try simp only [Act.put, List.getElem_toArray, List.getElem_cons_succ, List.getElem_cons_zero, List.setIfInBounds_toArray, List.set_cons_zero, List.set_cons_succ])
        refine wpAnyH_take (i := 19) (v := ?_) rfl (by kernel_rfl) (by kernel_rfl) (by kernel_rfl) (fun _ _ _ h => h) (Or.inl ⟨by kernel_rfl, ?_⟩) (by assumption) ?_
        rotate_left 1
        · (intro w hSw; (try dsimp only at hSw); (try simp only [List.getElem_toArray, List.getElem_cons_succ, List.getElem_cons_zero]); go_simp; (try with_reducible rfl))
        (try simp only [Act.put, List.getElem_toArray, List.getElem_cons_succ, List.getElem_cons_zero, List.setIfInBounds_toArray, List.set_cons_zero, List.set_cons_succ])
        refine wpAnyH_take (i := 21) (v := ?_) rfl (by kernel_rfl) (by kernel_rfl) (by kernel_rfl) (fun _ _ _ h => h) (Or.inl ⟨by kernel_rfl, ?_⟩) (by assumption) ?_
        rotate_left 1
        · (intro w hSw; (try dsimp only at hSw); (try simp only [List.getElem_toArray, List.getElem_cons_succ, List.getElem_cons_zero]); go_simp; (try with_reducible rfl))
        (try simp only [Act.put, List.getElem_toArray, List.getElem_cons_succ, List.getElem_cons_zero, List.setIfInBounds_toArray, List.set_cons_zero, List.set_cons_succ])
        refine wpAnyH_ready (rs := [20]) (by kernel_rfl) (by simp) ?_
        refine AllReadyH.cons rfl (fun K hK => ?_) AllReadyH.nil
        (try simp only [List.getElem_toArray, List.getElem_cons_succ, List.getElem_cons_zero])
        go_simp
        refine (tree_Bare.calls qx x.f0 x.f1 x.f2 x.f3 A5 c5 x.f4 x.f0 x.f1 x.f2 x.f3 x.f4 _ (Kd.C_below Cx.out hHeld.2.2.2.2.2.2.2.2.2.2.2.2.2.2.2.2.2.2.2.2) hc5 KX.out).mono ?_
        rintro e w9 ⟨v_, rfl, ra, hb⟩
        obtain ⟨A7, c7, rfl, hc7, cc7⟩ := Kd.R_reads ra
        have C7 := Lib.hid cc7
        clear cc7 ra
        simp only []
        refine hK.out _ _ ?_ (fun hHeld => ?_)
        · (try dsimp only); exact keepS20 hHeld hb
        clear hK K
        (try simp only [Act.put, List.getElem_toArray, List.getElem_cons_succ, List.getElem_cons_zero, List.setIfInBounds_toArray, List.set_cons_zero, List.set_cons_succ])
        refine wpAnyH_ready (rs := [22]) (by kernel_rfl) (by simp) ?_
        refine AllReadyH.cons rfl (fun K hK => ?_) AllReadyH.nil
        (try simp only [List.getElem_toArray, List.getElem_cons_succ, List.getElem_cons_zero])
        go_simp
        obtain ⟨kk, hkk⟩ := (TreeOne.one_ev _ x (Nat.le_refl _) szx x).rounds
        rw [HOO.out] at hkk
        refine (gossamerref02_One.calls kk x.f0 x.f1 x.f2 x.f3 _ _ x.f4 x.f0 x.f1 x.f2 x.f3 _ _ x.f4 true _ C7.out hc7 (Kd.C_below Cx.out hHeld.2.2.2.2.2.2.2.2.2.2.2.2.2.2.2.2.2.2.2.2) hc5 hkk).mono ?_
        rintro e w9 ⟨rfl, hb⟩
        clear hkk
        simp only []
        refine hK.out _ _ ?_ (fun hHeld => ?_)
        · (try dsimp only); exact keepS20 hHeld hb
        clear hK K
        (try simp only [Act.put, List.getElem_toArray, List.getElem_cons_succ, List.getElem_cons_zero, List.setIfInBounds_toArray, List.set_cons_zero, List.set_cons_succ])
        refine wpAnyH_take (i := 23) (v := ?_) rfl (by kernel_rfl) (by kernel_rfl) (by kernel_rfl) (fun _ _ _ h => h) (Or.inl ⟨by kernel_rfl, ?_⟩) (by assumption) ?_
        rotate_left 1
        · (intro w hSw; (try dsimp only at hSw); (try simp only [List.getElem_toArray, List.getElem_cons_succ, List.getElem_cons_zero]); go_simp; (try with_reducible rfl))
        (try simp only [Act.put, List.getElem_toArray, List.getElem_cons_succ, List.getElem_cons_zero, List.setIfInBounds_toArray, List.set_cons_zero, List.set_cons_succ])
        refine wpAnyH_take (i := 24) (v := ?_) rfl (by kernel_rfl) (by kernel_rfl) (by kernel_rfl) (fun _ _ _ h => h) (Or.inl ⟨by kernel_rfl, ?_⟩) (by assumption) ?_
        rotate_left 1
        · (intro w hSw; (try dsimp only at hSw); (try simp only [List.getElem_toArray, List.getElem_cons_succ, List.getElem_cons_zero]); go_simp; (try with_reducible rfl))
        (try simp only [Act.put, List.getElem_toArray, List.getElem_cons_succ, List.getElem_cons_zero, List.setIfInBounds_toArray, List.set_cons_zero, List.set_cons_succ])
        refine wpAnyH_done (by kernel_rfl) ?_ _
        have hb := hHeld.2.2.2.2.2.2.2.2.2.2.2.2.2.2.2.2.2.2.2.2
        clear hHeld
        have n0_ := Lib.hid (below_step HB.out hb)
        have nCa := Lib.hid (Kd.C_below Ca.out hb); have nBa := Lib.hid (blk_below Ba.out hb)
        have nCb := Lib.hid (Kd.C_below Cb.out hb); have nBb := Lib.hid (blk_below Bb.out hb)
        have nCx := Lib.hid (Kd.C_below Cx.out hb); have nBx := Lib.hid (blk_below Bx.out hb)
        have nCy := Lib.hid (Kd.C_below Cy.out hb); have nBy := Lib.hid (blk_below By.out hb)
        clear HB hb Ca Ba Cb Bb Cx Bx Cy By a0 a1 a2 a3 a4 b0 b1 b2 b3 b4 x0 x1 x2 x3 x4 y0 y1 y2 y3 y4
        have HB := n0_
        have Ca := nCa; have Ba := nBa
        have Cb := nCb; have Bb := nBb
        have Cx := nCx; have Bx := nBx
        have Cy := nCy; have By := nBy
        clear n0_ nCa nBa nCb nBb nCx nBx nCy nBy
        have a0 := blk_cell Ba.out 0
        have a1 := blk_cell Ba.out 1
        have a2 := blk_cell Ba.out 2
        have a3 := blk_cell Ba.out 3
        have a4 := blk_cell Ba.out 4
        have b0 := blk_cell Bb.out 0
        have b1 := blk_cell Bb.out 1
        have b2 := blk_cell Bb.out 2
        have b3 := blk_cell Bb.out 3
        have b4 := blk_cell Bb.out 4
        have x0 := blk_cell Bx.out 0
        have x1 := blk_cell Bx.out 1
        have x2 := blk_cell Bx.out 2
        have x3 := blk_cell Bx.out 3
        have x4 := blk_cell Bx.out 4
        have y0 := blk_cell By.out 0
        have y1 := blk_cell By.out 1
        have y2 := blk_cell By.out 2
        have y3 := blk_cell By.out 3
        have y4 := blk_cell By.out 4
        simp only [List.getElem?_toArray, List.getElem?_cons_zero, List.getElem?_cons_succ] at a0 a1 a2 a3 a4 b0 b1 b2 b3 b4 x0 x1 x2 x3 x4 y0 y1 y2 y3 y4
        go_upto_region 7 with (fail)
        refine wp_region_held_drew (S := (fun w' => w'.cell? ⟨w.heap.size, 0, none⟩ = some (.int .i64 a.f0) ∧ w'.cell? ⟨w.heap.size, 1, none⟩ = some (.string a.f1) ∧ w'.cell? ⟨w.heap.size, 2, none⟩ = some (.int .i64 a.f2) ∧ w'.cell? ⟨w.heap.size, 3, none⟩ = some (.int .i64 a.f3) ∧ w'.cell? ⟨w.heap.size, 4, none⟩ = some (.slice Aa a.f4.length ca) ∧ w'.cell? ⟨w.heap.size + 1, 0, none⟩ = some (.int .i64 b.f0) ∧ w'.cell? ⟨w.heap.size + 1, 1, none⟩ = some (.string b.f1) ∧ w'.cell? ⟨w.heap.size + 1, 2, none⟩ = some (.int .i64 b.f2) ∧ w'.cell? ⟨w.heap.size + 1, 3, none⟩ = some (.int .i64 b.f3) ∧ w'.cell? ⟨w.heap.size + 1, 4, none⟩ = some (.slice Ab b.f4.length cb) ∧ w'.cell? ⟨g5, 0, none⟩ = some (.int .i64 x.f0) ∧ w'.cell? ⟨g5, 1, none⟩ = some (.string x.f1) ∧ w'.cell? ⟨g5, 2, none⟩ = some (.int .i64 x.f2) ∧ w'.cell? ⟨g5, 3, none⟩ = some (.int .i64 x.f3) ∧ w'.cell? ⟨g5, 4, none⟩ = some (.slice A5 x.f4.length c5) ∧ w'.cell? ⟨g6, 0, none⟩ = some (.int .i64 y.f0) ∧ w'.cell? ⟨g6, 1, none⟩ = some (.string y.f1) ∧ w'.cell? ⟨g6, 2, none⟩ = some (.int .i64 y.f2) ∧ w'.cell? ⟨g6, 3, none⟩ = some (.int .i64 y.f3) ∧ w'.cell? ⟨g6, 4, none⟩ = some (.slice A6 y.f4.length c6) ∧ Below w9.heap.size w9 w')) (by kernel_rfl) (by (try dsimp only); exact keepS20 ⟨a0, a1, a2, a3, a4, b0, b1, b2, b3, b4, x0, x1, x2, x3, x4, y0, y1, y2, y3, y4, Below.refl _ _⟩ (below_drew1 (Below.refl _ _))) (fun hHeld => ?_)
        change wpAnyH _ _ _ _ _ 24 #[false, false, false, false, false, false, false, false, false, false, false, false, false, false, false, false, false, false, false, false, false, false, false, false] _ _
        refine wpAnyH_take (i := 0) (v := ?_) rfl (by kernel_rfl) (by kernel_rfl) (by kernel_rfl) (fun _ _ _ h => h) (Or.inl ⟨by kernel_rfl, ?_⟩) (by assumption) ?_
        rotate_left 1
        · (intro w hSw; (try dsimp only at hSw); (try simp only [List.getElem_toArray, List.getElem_cons_succ, List.getElem_cons_zero]); go_simp; (try with_reducible rfl))
        (try simp only [Act.put, List.getElem_toArray, List.getElem_cons_succ, List.getElem_cons_zero, List.setIfInBounds_toArray, List.set_cons_zero, List.set_cons_succ])
        refine wpAnyH_take (i := 1) (v := ?_) rfl (by kernel_rfl) (by kernel_rfl) (by kernel_rfl) (fun _ _ _ h => h) (Or.inl ⟨by kernel_rfl, ?_⟩) (by assumption) ?_
        rotate_left 1
        · (intro w hSw; (try dsimp only at hSw); (try simp only [List.getElem_toArray, List.getElem_cons_succ, List.getElem_cons_zero]); go_simp; (try with_reducible rfl))
        (try simp only [Act.put, List.getElem_toArray, List.getElem_cons_succ, List.getElem_cons_zero, List.setIfInBounds_toArray, List.set_cons_zero, List.set_cons_succ])
        refine wpAnyH_take (i := 2) (v := ?_) rfl (by kernel_rfl) (by kernel_rfl) (by kernel_rfl) (fun _ _ _ h => h) (Or.inl ⟨by kernel_rfl, ?_⟩) (by assumption) ?_
        rotate_left 1
        · (intro w hSw; (try dsimp only at hSw); (try simp only [List.getElem_toArray, List.getElem_cons_succ, List.getElem_cons_zero]); go_simp; (try with_reducible rfl))
        (try simp only [Act.put, List.getElem_toArray, List.getElem_cons_succ, List.getElem_cons_zero, List.setIfInBounds_toArray, List.set_cons_zero, List.set_cons_succ])
        refine wpAnyH_take (i := 3) (v := undef) rfl (by kernel_rfl) (by kernel_rfl) (by kernel_rfl) (fun _ _ _ h => h) (Or.inr ⟨by rfl, rfl⟩) (by assumption) ?_
        (try simp only [Act.put, List.getElem_toArray, List.getElem_cons_succ, List.getElem_cons_zero, List.setIfInBounds_toArray, List.set_cons_zero, List.set_cons_succ])
        refine wpAnyH_take (i := 4) (v := undef) rfl (by kernel_rfl) (by kernel_rfl) (by kernel_rfl) (fun _ _ _ h => h) (Or.inr ⟨by rfl, rfl⟩) (by assumption) ?_
        (try simp only [Act.put, List.getElem_toArray, List.getElem_cons_succ, List.getElem_cons_zero, List.setIfInBounds_toArray, List.set_cons_zero, List.set_cons_succ])
        refine wpAnyH_take (i := 5) (v := undef) rfl (by kernel_rfl) (by kernel_rfl) (by kernel_rfl) (fun _ _ _ h => h) (Or.inr ⟨by rfl, rfl⟩) (by assumption) ?_
        (try simp only [Act.put, List.getElem_toArray, List.getElem_cons_succ, List.getElem_cons_zero, List.setIfInBounds_toArray, List.set_cons_zero, List.set_cons_succ])
        refine wpAnyH_take (i := 6) (v := undef) rfl (by kernel_rfl) (by kernel_rfl) (by kernel_rfl) (fun _ _ _ h => h) (Or.inr ⟨by rfl, rfl⟩) (by assumption) ?_
        (try simp only [Act.put, List.getElem_toArray, List.getElem_cons_succ, List.getElem_cons_zero, List.setIfInBounds_toArray, List.set_cons_zero, List.set_cons_succ])
        refine wpAnyH_take (i := 7) (v := undef) rfl (by kernel_rfl) (by kernel_rfl) (by kernel_rfl) (fun _ _ _ h => h) (Or.inr ⟨by rfl, rfl⟩) (by assumption) ?_
        (try simp only [Act.put, List.getElem_toArray, List.getElem_cons_succ, List.getElem_cons_zero, List.setIfInBounds_toArray, List.set_cons_zero, List.set_cons_succ])
        refine wpAnyH_take (i := 8) (v := undef) rfl (by kernel_rfl) (by kernel_rfl) (by kernel_rfl) (fun _ _ _ h => h) (Or.inr ⟨by rfl, rfl⟩) (by assumption) ?_
        (try simp only [Act.put, List.getElem_toArray, List.getElem_cons_succ, List.getElem_cons_zero, List.setIfInBounds_toArray, List.set_cons_zero, List.set_cons_succ])
        refine wpAnyH_take (i := 9) (v := undef) rfl (by kernel_rfl) (by kernel_rfl) (by kernel_rfl) (fun _ _ _ h => h) (Or.inr ⟨by rfl, rfl⟩) (by assumption) ?_
        (try simp only [Act.put, List.getElem_toArray, List.getElem_cons_succ, List.getElem_cons_zero, List.setIfInBounds_toArray, List.set_cons_zero, List.set_cons_succ])
        refine wpAnyH_take (i := 10) (v := undef) rfl (by kernel_rfl) (by kernel_rfl) (by kernel_rfl) (fun _ _ _ h => h) (Or.inr ⟨by rfl, rfl⟩) (by assumption) ?_
        (try simp only [Act.put, List.getElem_toArray, List.getElem_cons_succ, List.getElem_cons_zero, List.setIfInBounds_toArray, List.set_cons_zero, List.set_cons_succ])
        refine wpAnyH_take (i := 11) (v := undef) rfl (by kernel_rfl) (by kernel_rfl) (by kernel_rfl) (fun _ _ _ h => h) (Or.inr ⟨by rfl, rfl⟩) (by assumption) ?_
        (try simp only [Act.put, List.getElem_toArray, List.getElem_cons_succ, List.getElem_cons_zero, List.setIfInBounds_toArray, List.set_cons_zero, List.set_cons_succ])
        refine wpAnyH_take (i := 12) (v := undef) rfl (by kernel_rfl) (by kernel_rfl) (by kernel_rfl) (fun _ _ _ h => h) (Or.inr ⟨by rfl, rfl⟩) (by assumption) ?_
        (try simp only [Act.put, List.getElem_toArray, List.getElem_cons_succ, List.getElem_cons_zero, List.setIfInBounds_toArray, List.set_cons_zero, List.set_cons_succ])
        refine wpAnyH_take (i := 13) (v := undef) rfl (by kernel_rfl) (by kernel_rfl) (by kernel_rfl) (fun _ _ _ h => h) (Or.inr ⟨by rfl, rfl⟩) (by assumption) ?_
        (try simp only [Act.put, List.getElem_toArray, List.getElem_cons_succ, List.getElem_cons_zero, List.setIfInBounds_toArray, List.set_cons_zero, List.set_cons_succ])
        refine wpAnyH_take (i := 14) (v := undef) rfl (by kernel_rfl) (by kernel_rfl) (by kernel_rfl) (fun _ _ _ h => h) (Or.inr ⟨by rfl, rfl⟩) (by assumption) ?_
        (try simp only [Act.put, List.getElem_toArray, List.getElem_cons_succ, List.getElem_cons_zero, List.setIfInBounds_toArray, List.set_cons_zero, List.set_cons_succ])
        refine wpAnyH_take (i := 15) (v := undef) rfl (by kernel_rfl) (by kernel_rfl) (by kernel_rfl) (fun _ _ _ h => h) (Or.inr ⟨by rfl, rfl⟩) (by assumption) ?_
        (try simp only [Act.put, List.getElem_toArray, List.getElem_cons_succ, List.getElem_cons_zero, List.setIfInBounds_toArray, List.set_cons_zero, List.set_cons_succ])
        refine wpAnyH_take (i := 16) (v := undef) rfl (by kernel_rfl) (by kernel_rfl) (by kernel_rfl) (fun _ _ _ h => h) (Or.inr ⟨by rfl, rfl⟩) (by assumption) ?_
        (try simp only [Act.put, List.getElem_toArray, List.getElem_cons_succ, List.getElem_cons_zero, List.setIfInBounds_toArray, List.set_cons_zero, List.set_cons_succ])
        refine wpAnyH_take (i := 17) (v := undef) rfl (by kernel_rfl) (by kernel_rfl) (by kernel_rfl) (fun _ _ _ h => h) (Or.inr ⟨by rfl, rfl⟩) (by assumption) ?_
        (try simp only [Act.put, List.getElem_toArray, List.getElem_cons_succ, List.getElem_cons_zero, List.setIfInBounds_toArray, List.set_cons_zero, List.set_cons_succ])
        refine wpAnyH_take (i := 18) (v := undef) rfl (by kernel_rfl) (by kernel_rfl) (by kernel_rfl) (fun _ _ _ h => h) (Or.inr ⟨by rfl, rfl⟩) (by assumption) ?_
        (try simp only [Act.put, List.getElem_toArray, List.getElem_cons_succ, List.getElem_cons_zero, List.setIfInBounds_toArray, List.set_cons_zero, List.set_cons_succ])
        refine wpAnyH_take (i := 19) (v := undef) rfl (by kernel_rfl) (by kernel_rfl) (by kernel_rfl) (fun _ _ _ h => h) (Or.inr ⟨by rfl, rfl⟩) (by assumption) ?_
        (try simp only [Act.put, List.getElem_toArray, List.getElem_cons_succ, List.getElem_cons_zero, List.setIfInBounds_toArray, List.set_cons_zero, List.set_cons_succ])
        refine wpAnyH_take (i := 20) (v := undef) rfl (by kernel_rfl) (by kernel_rfl) (by kernel_rfl) (fun _ _ _ h => h) (Or.inr ⟨by rfl, rfl⟩) (by assumption) ?_
        (try simp only [Act.put, List.getElem_toArray, List.getElem_cons_succ, List.getElem_cons_zero, List.setIfInBounds_toArray, List.set_cons_zero, List.set_cons_succ])
        refine wpAnyH_take (i := 21) (v := undef) rfl (by kernel_rfl) (by kernel_rfl) (by kernel_rfl) (fun _ _ _ h => h) (Or.inr ⟨by rfl, rfl⟩) (by assumption) ?_
        (try simp only [Act.put, List.getElem_toArray, List.getElem_cons_succ, List.getElem_cons_zero, List.setIfInBounds_toArray, List.set_cons_zero, List.set_cons_succ])
        refine wpAnyH_take (i := 22) (v := ?_) rfl (by kernel_rfl) (by kernel_rfl) (by kernel_rfl) (fun _ _ _ h => h) (Or.inl ⟨by kernel_rfl, ?_⟩) (by assumption) ?_
        rotate_left 1
        · (intro w hSw; (try dsimp only at hSw); (try simp only [List.getElem_toArray, List.getElem_cons_succ, List.getElem_cons_zero]); go_simp; (try with_reducible rfl))
        (try simp only [Act.put, List.getElem_toArray, List.getElem_cons_succ, List.getElem_cons_zero, List.setIfInBounds_toArray, List.set_cons_zero, List.set_cons_succ])
        refine wpAnyH_take (i := 23) (v := ?_) rfl (by kernel_rfl) (by kernel_rfl) (by kernel_rfl) (fun _ _ _ h => h) (Or.inl ⟨by kernel_rfl, ?_⟩) (by assumption) ?_
        rotate_left 1
        · (intro w hSw; (try dsimp only at hSw); (try simp only [List.getElem_toArray, List.getElem_cons_succ, List.getElem_cons_zero]); go_simp; (try with_reducible rfl))
        (try simp only [Act.put, List.getElem_toArray, List.getElem_cons_succ, List.getElem_cons_zero, List.setIfInBounds_toArray, List.set_cons_zero, List.set_cons_succ])
        refine wpAnyH_done (by kernel_rfl) ?_ _
        have HB9 := Lib.hid (below_step HB.out hHeld.2.2.2.2.2.2.2.2.2.2.2.2.2.2.2.2.2.2.2.2)
        clear hHeld
        go_wp2_with fail
        go_ret
        exact ⟨rfl, HB9.out⟩
      | true =>
        have HBX := Lib.hid (TreeOne.same_bare_eq VS.out)
        have HH : Hid (height b = height a) := Lib.hid (by rw [← TreeOne.height_bare b, ← HBX.out, TreeOne.height_bare])
        have HZ : Hid (size b = size a) := Lib.hid (by rw [← TreeOne.size_bare b, ← HBX.out, TreeOne.size_bare])
        obtain ⟨wx, WX⟩ : ∃ q, Hid (whole x = q) := ⟨_, Lib.hid rfl⟩
        have WY : Hid (whole y = wx) := Lib.hid (by rw [← WX.out, ← Hx.out, ← Hy.out, HBX.out])
        go_upto_region 5 with (fail)
        refine wp_region_held_drew (S := (fun w' => w'.cell? ⟨w.heap.size, 0, none⟩ = some (.int .i64 a.f0) ∧ w'.cell? ⟨w.heap.size, 1, none⟩ = some (.string a.f1) ∧ w'.cell? ⟨w.heap.size, 2, none⟩ = some (.int .i64 a.f2) ∧ w'.cell? ⟨w.heap.size, 3, none⟩ = some (.int .i64 a.f3) ∧ w'.cell? ⟨w.heap.size, 4, none⟩ = some (.slice Aa a.f4.length ca) ∧ w'.cell? ⟨w.heap.size + 1, 0, none⟩ = some (.int .i64 b.f0) ∧ w'.cell? ⟨w.heap.size + 1, 1, none⟩ = some (.string b.f1) ∧ w'.cell? ⟨w.heap.size + 1, 2, none⟩ = some (.int .i64 b.f2) ∧ w'.cell? ⟨w.heap.size + 1, 3, none⟩ = some (.int .i64 b.f3) ∧ w'.cell? ⟨w.heap.size + 1, 4, none⟩ = some (.slice Ab b.f4.length cb) ∧ w'.cell? ⟨g5, 0, none⟩ = some (.int .i64 x.f0) ∧ w'.cell? ⟨g5, 1, none⟩ = some (.string x.f1) ∧ w'.cell? ⟨g5, 2, none⟩ = some (.int .i64 x.f2) ∧ w'.cell? ⟨g5, 3, none⟩ = some (.int .i64 x.f3) ∧ w'.cell? ⟨g5, 4, none⟩ = some (.slice A5 x.f4.length c5) ∧ w'.cell? ⟨g6, 0, none⟩ = some (.int .i64 y.f0) ∧ w'.cell? ⟨g6, 1, none⟩ = some (.string y.f1) ∧ w'.cell? ⟨g6, 2, none⟩ = some (.int .i64 y.f2) ∧ w'.cell? ⟨g6, 3, none⟩ = some (.int .i64 y.f3) ∧ w'.cell? ⟨g6, 4, none⟩ = some (.slice A6 y.f4.length c6) ∧ Below w8.heap.size w8 w')) (by kernel_rfl) (by (try dsimp only); exact keepS20 ⟨a0, a1, a2, a3, a4, b0, b1, b2, b3, b4, x0, x1, x2, x3, x4, y0, y1, y2, y3, y4, Below.refl _ _⟩ (below_drew1 (Below.refl _ _))) (fun hHeld => ?_)
        change wpAnyH _ _ _ _ _ 25 #[false, false, false, false, false, false, false, false, false, false, false, false, false, false, false, false, false, false, false, false, false, false, false, false, false] _ _
        refine wpAnyH_take (i := 0) (v := ?_) rfl (by kernel_rfl) (by kernel_rfl) (by kernel_rfl) (fun _ _ _ h => h) (Or.inl ⟨by kernel_rfl, ?_⟩) (by assumption) ?_
        rotate_left 1
        · (intro w hSw; (try dsimp only at hSw); (try simp only [List.getElem_toArray, List.getElem_cons_succ, List.getElem_cons_zero]); go_simp; (try with_reducible rfl))
        (try simp only [Act.put, List.getElem_toArray, List.getElem_cons_succ, List.getElem_cons_zero, List.setIfInBounds_toArray, List.set_cons_zero, List.set_cons_succ])
        refine wpAnyH_take (i := 1) (v := ?_) rfl (by kernel_rfl) (by kernel_rfl) (by kernel_rfl) (fun _ _ _ h => h) (Or.inl ⟨by kernel_rfl, ?_⟩) (by assumption) ?_
        rotate_left 1
        · (intro w hSw; (try dsimp only at hSw); (try simp only [List.getElem_toArray, List.getElem_cons_succ, List.getElem_cons_zero]); go_simp; (try with_reducible rfl))
        (try simp only [Act.put, List.getElem_toArray, List.getElem_cons_succ, List.getElem_cons_zero, List.setIfInBounds_toArray, List.set_cons_zero, List.set_cons_succ])
        refine wpAnyH_take (i := 2) (v := ?_) rfl (by kernel_rfl) (by kernel_rfl) (by kernel_rfl) (fun _ _ _ h => h) (Or.inl ⟨by kernel_rfl, ?_⟩) (by assumption) ?_
        rotate_left 1
        · (intro w hSw; (try dsimp only at hSw); (try simp only [List.getElem_toArray, List.getElem_cons_succ, List.getElem_cons_zero]); go_simp; (try with_reducible rfl))
        (try simp only [Act.put, List.getElem_toArray, List.getElem_cons_succ, List.getElem_cons_zero, List.setIfInBounds_toArray, List.set_cons_zero, List.set_cons_succ])
        refine wpAnyH_ready (rs := [3]) (by kernel_rfl) (by simp) ?_
        refine AllReadyH.cons rfl (fun K hK => ?_) AllReadyH.nil
        (try simp only [List.getElem_toArray, List.getElem_cons_succ, List.getElem_cons_zero])
        go_simp
        obtain ⟨kk, hkk⟩ := (TreeOne.one_ev _ x (Nat.le_refl _) szx y).rounds
        rw [HOX.out] at hkk
        refine (gossamerref02_One.calls kk x.f0 x.f1 x.f2 x.f3 _ _ x.f4 y.f0 y.f1 y.f2 y.f3 _ _ y.f4 true _ (Kd.C_below Cx.out hHeld.2.2.2.2.2.2.2.2.2.2.2.2.2.2.2.2.2.2.2.2) hc5 (Kd.C_below Cy.out hHeld.2.2.2.2.2.2.2.2.2.2.2.2.2.2.2.2.2.2.2.2) hc6 hkk).mono ?_
        rintro e w9 ⟨rfl, hb⟩
        clear hkk
        simp only []
        refine hK.out _ _ ?_ (fun hHeld => ?_)
        · (try dsimp only); exact keepS20 hHeld hb
        clear hK K
        (try simp only [Act.put, List.getElem_toArray, List.getElem_cons_succ, List.getElem_cons_zero, List.setIfInBounds_toArray, List.set_cons_zero, List.set_cons_succ])
        refine wpAnyH_take (i := 4) (v := ?_) rfl (by kernel_rfl) (by kernel_rfl) (by kernel_rfl) (fun _ _ _ h => h) (Or.inl ⟨by kernel_rfl, ?_⟩) (by assumption) ?_
        rotate_left 1
        · (intro w hSw; (try dsimp only at hSw); (try simp only [List.getElem_toArray, List.getElem_cons_succ, List.getElem_cons_zero]); go_simp; (try with_reducible rfl))
        (try simp only [Act.put, List.getElem_toArray, List.getElem_cons_succ, List.getElem_cons_zero, List.setIfInBounds_toArray, List.set_cons_zero, List.set_cons_succ])
        refine wpAnyH_take (i := 5) (v := ?_) rfl (by kernel_rfl) (by kernel_rfl) (by kernel_rfl) (fun _ _ _ h => h) (Or.inl ⟨by kernel_rfl, ?_⟩) (by assumption) ?_
        rotate_left 1
        · (intro w hSw; (try dsimp only at hSw); (try simp only [List.getElem_toArray, List.getElem_cons_succ, List.getElem_cons_zero]); go_simp; (try with_reducible rfl))
        (try simp only [Act.put, List.getElem_toArray, List.getElem_cons_succ, List.getElem_cons_zero, List.setIfInBounds_toArray, List.set_cons_zero, List.set_cons_succ])
        refine wpAnyH_take (i := 6) (v := ?_) rfl (by kernel_rfl) (by kernel_rfl) (by kernel_rfl) (fun _ _ _ h => h) (Or.inl ⟨by kernel_rfl, ?_⟩) (by assumption) ?_
        rotate_left 1
        · (intro w hSw; (try dsimp only at hSw); (try simp only [List.getElem_toArray, List.getElem_cons_succ, List.getElem_cons_zero]); go_simp; (try with_reducible rfl))
        (try simp only [Act.put, List.getElem_toArray, List.getElem_cons_succ, List.getElem_cons_zero, List.setIfInBounds_toArray, List.set_cons_zero, List.set_cons_succ])
        refine wpAnyH_take (i := 7) (v := ?_) rfl (by kernel_rfl) (by kernel_rfl) (by kernel_rfl) (fun _ _ _ h => h) (Or.inl ⟨by kernel_rfl, ?_⟩) (by assumption) ?_
        rotate_left 1
        · (intro w hSw; (try dsimp only at hSw); (try simp only [List.getElem_toArray, List.getElem_cons_succ, List.getElem_cons_zero]); go_simp; (try with_reducible rfl))
        (try simp only [Act.put, List.getElem_toArray, List.getElem_cons_succ, List.getElem_cons_zero, List.setIfInBounds_toArray, List.set_cons_zero, List.set_cons_succ])
        refine wpAnyH_take (i := 8) (v := ?_) rfl (by kernel_rfl) (by kernel_rfl) (by kernel_rfl) (fun _ _ _ h => h) (Or.inl ⟨by kernel_rfl, ?_⟩) (by assumption) ?_
        rotate_left 1
        · (intro w hSw; (try dsimp only at hSw); (try simp only [List.getElem_toArray, List.getElem_cons_succ, List.getElem_cons_zero]); go_simp; (try with_reducible rfl))
        (try simp only [Act.put, List.getElem_toArray, List.getElem_cons_succ, List.getElem_cons_zero, List.setIfInBounds_toArray, List.set_cons_zero, List.set_cons_succ])
        refine wpAnyH_ready (rs := [9]) (by kernel_rfl) (by simp) ?_
        refine AllReadyH.cons rfl (fun K hK => ?_) AllReadyH.nil
        (try simp only [List.getElem_toArray, List.getElem_cons_succ, List.getElem_cons_zero])
        go_simp
        refine ((TreeSm.same_any _ b (Nat.le_refl _) (by omega) a _ _ _ _ _ (Kd.C_below Cb.out hHeld.2.2.2.2.2.2.2.2.2.2.2.2.2.2.2.2.2.2.2.2) hlb (Kd.C_below Ca.out hHeld.2.2.2.2.2.2.2.2.2.2.2.2.2.2.2.2.2.2.2.2) hla).mono fun e w' h => (⟨h.1.trans (by rw [VBA.out]), h.2⟩ : e = .returned (.bool true) ∧ _)).mono ?_
        rintro e w9 ⟨rfl, hb⟩
        simp only []
        refine hK.out _ _ ?_ (fun hHeld => ?_)
        · (try dsimp only); exact keepS20 hHeld hb
        clear hK K
        (try simp only [Act.put, List.getElem_toArray, List.getElem_cons_succ, List.getElem_cons_zero, List.setIfInBounds_toArray, List.set_cons_zero, List.set_cons_succ])
        refine wpAnyH_take (i := 10) (v := ?_) rfl (by kernel_rfl) (by kernel_rfl) (by kernel_rfl) (fun _ _ _ h => h) (Or.inl ⟨by kernel_rfl, ?_⟩) (by assumption) ?_
        rotate_left 1
        · (intro w hSw; (try dsimp only at hSw); (try simp only [List.getElem_toArray, List.getElem_cons_succ, List.getElem_cons_zero]); go_simp; (try with_reducible rfl))
        (try simp only [Act.put, List.getElem_toArray, List.getElem_cons_succ, List.getElem_cons_zero, List.setIfInBounds_toArray, List.set_cons_zero, List.set_cons_succ])
        refine wpAnyH_take (i := 11) (v := ?_) rfl (by kernel_rfl) (by kernel_rfl) (by kernel_rfl) (fun _ _ _ h => h) (Or.inl ⟨by kernel_rfl, ?_⟩) (by assumption) ?_
        rotate_left 1
        · (intro w hSw; (try dsimp only at hSw); (try simp only [List.getElem_toArray, List.getElem_cons_succ, List.getElem_cons_zero]); go_simp; (try with_reducible rfl))
        (try simp only [Act.put, List.getElem_toArray, List.getElem_cons_succ, List.getElem_cons_zero, List.setIfInBounds_toArray, List.set_cons_zero, List.set_cons_succ])
        refine wpAnyH_take (i := 12) (v := ?_) rfl (by kernel_rfl) (by kernel_rfl) (by kernel_rfl) (fun _ _ _ h => h) (Or.inl ⟨by kernel_rfl, ?_⟩) (by assumption) ?_
        rotate_left 1
        · (intro w hSw; (try dsimp only at hSw); (try simp only [List.getElem_toArray, List.getElem_cons_succ, List.getElem_cons_zero]); go_simp; (try with_reducible rfl))
        (try simp only [Act.put, List.getElem_toArray, List.getElem_cons_succ, List.getElem_cons_zero, List.setIfInBounds_toArray, List.set_cons_zero, List.set_cons_succ])
        refine wpAnyH_take (i := 13) (v := ?_) rfl (by kernel_rfl) (by kernel_rfl) (by kernel_rfl) (fun _ _ _ h => h) (Or.inl ⟨by kernel_rfl, ?_⟩) (by assumption) ?_
        rotate_left 1
        · (intro w hSw; (try dsimp only at hSw); (try simp only [List.getElem_toArray, List.getElem_cons_succ, List.getElem_cons_zero]); go_simp; (try with_reducible rfl))
        (try simp only [Act.put, List.getElem_toArray, List.getElem_cons_succ, List.getElem_cons_zero, List.setIfInBounds_toArray, List.set_cons_zero, List.set_cons_succ])
        refine wpAnyH_take (i := 14) (v := ?_) rfl (by kernel_rfl) (by kernel_rfl) (by kernel_rfl) (fun _ _ _ h => h) (Or.inl ⟨by kernel_rfl, ?_⟩) (by assumption) ?_
        rotate_left 1
        · (intro w hSw; (try dsimp only at hSw); (try simp only [List.getElem_toArray, List.getElem_cons_succ, List.getElem_cons_zero]); go_simp; (try with_reducible rfl))
        (try simp only [Act.put, List.getElem_toArray, List.getElem_cons_succ, List.getElem_cons_zero, List.setIfInBounds_toArray, List.set_cons_zero, List.set_cons_succ])
        refine wpAnyH_ready (rs := [15]) (by kernel_rfl) (by simp) ?_
        refine AllReadyH.cons rfl (fun K hK => ?_) AllReadyH.nil
        (try simp only [List.getElem_toArray, List.getElem_cons_succ, List.getElem_cons_zero])
        go_simp
        refine ((TreeSm.same_any _ a (Nat.le_refl _) (by omega) x _ _ _ _ _ (Kd.C_below Ca.out hHeld.2.2.2.2.2.2.2.2.2.2.2.2.2.2.2.2.2.2.2.2) hla (Kd.C_below Cx.out hHeld.2.2.2.2.2.2.2.2.2.2.2.2.2.2.2.2.2.2.2.2) hc5).mono fun e w' h => (⟨h.1.trans (by rw [VAX.out]), h.2⟩ : e = .returned (.bool true) ∧ _)).mono ?_
        rintro e w9 ⟨rfl, hb⟩
        simp only []
        refine hK.out _ _ ?_ (fun hHeld => ?_)
        · (try dsimp only); exact keepS20 hHeld hb
        clear hK K
        (try simp only [Act.put, List.getElem_toArray, List.getElem_cons_succ, List.getElem_cons_zero, List.setIfInBounds_toArray, List.set_cons_zero, List.set_cons_succ])
        refine wpAnyH_take (i := 16) (v := ?_) rfl (by kernel_rfl) (by kernel_rfl) (by kernel_rfl) (fun _ _ _ h => h) (Or.inl ⟨by kernel_rfl, ?_⟩) (by assumption) ?_
        rotate_left 1
        · (intro w hSw; (try dsimp only at hSw); (try simp only [List.getElem_toArray, List.getElem_cons_succ, List.getElem_cons_zero]); go_simp; (try with_reducible rfl))
        (try simp only [Act.put, List.getElem_toArray, List.getElem_cons_succ, List.getElem_cons_zero, List.setIfInBounds_toArray, List.set_cons_zero, List.set_cons_succ])
        refine wpAnyH_take (i := 17) (v := ?_) rfl (by kernel_rfl) (by kernel_rfl) (by kernel_rfl) (fun _ _ _ h => h) (Or.inl ⟨by kernel_rfl, ?_⟩) (by assumption) ?_
        rotate_left 1
        · (intro w hSw; (try dsimp only at hSw); (try simp only [List.getElem_toArray, List.getElem_cons_succ, List.getElem_cons_zero]); go_simp; (try with_reducible rfl))
        (try simp only [Act.put, List.getElem_toArray, List.getElem_cons_succ, List.getElem_cons_zero, List.setIfInBounds_toArray, List.set_cons_zero, List.set_cons_succ])
        refine wpAnyH_take (i := 18) (v := ?_) rfl (by kernel_rfl) (by kernel_rfl) (by kernel_rfl) (fun _ _ _ h => h) (Or.inl ⟨by kernel_rfl, ?_⟩) (by assumption) ?_
        rotate_left 1
        · (intro w hSw; (try dsimp only at hSw); (try simp only [List.getElem_toArray, List.getElem_cons_succ, List.getElem_cons_zero]); go_simp; (try with_reducible rfl))
        (try simp only [Act.put, List.getElem_toArray, List.getElem_cons_succ, List.getElem_cons_zero, List.setIfInBounds_toArray, List.set_cons_zero, List.set_cons_succ])
        refine wpAnyH_take (i := 19) (v := ?_) rfl (by kernel_rfl) (by kernel_rfl) (by kernel_rfl) (fun _ _ _ h => h) (Or.inl ⟨by kernel_rfl, ?_⟩) (by assumption) ?_
        rotate_left 1
        · (intro w hSw; (try dsimp only at hSw); (try simp only [List.getElem_toArray, List.getElem_cons_succ, List.getElem_cons_zero]); go_simp; (try with_reducible rfl))
        (try simp only [Act.put, List.getElem_toArray, List.getElem_cons_succ, List.getElem_cons_zero, List.setIfInBounds_toArray, List.set_cons_zero, List.set_cons_succ])
        refine wpAnyH_take (i := 21) (v := ?_) rfl (by kernel_rfl) (by kernel_rfl) (by kernel_rfl) (fun _ _ _ h => h) (Or.inl ⟨by kernel_rfl, ?_⟩) (by assumption) ?_
        rotate_left 1
        · (intro w hSw; (try dsimp only at hSw); (try simp only [List.getElem_toArray, List.getElem_cons_succ, List.getElem_cons_zero]); go_simp; (try with_reducible rfl))
        (try simp only [Act.put, List.getElem_toArray, List.getElem_cons_succ, List.getElem_cons_zero, List.setIfInBounds_toArray, List.set_cons_zero, List.set_cons_succ])
        refine wpAnyH_ready (rs := [20]) (by kernel_rfl) (by simp) ?_
        refine AllReadyH.cons rfl (fun K hK => ?_) AllReadyH.nil
        (try simp only [List.getElem_toArray, List.getElem_cons_succ, List.getElem_cons_zero])
        go_simp
        refine (tree_Bare.calls qx x.f0 x.f1 x.f2 x.f3 A5 c5 x.f4 x.f0 x.f1 x.f2 x.f3 x.f4 _ (Kd.C_below Cx.out hHeld.2.2.2.2.2.2.2.2.2.2.2.2.2.2.2.2.2.2.2.2) hc5 KX.out).mono ?_
        rintro e w9 ⟨v_, rfl, ra, hb⟩
        obtain ⟨A7, c7, rfl, hc7, cc7⟩ := Kd.R_reads ra
        have C7 := Lib.hid cc7
        clear cc7 ra
        simp only []
        refine hK.out _ _ ?_ (fun hHeld => ?_)
        · (try dsimp only); exact keepS20 hHeld hb
        clear hK K
        (try simp only [Act.put, List.getElem_toArray, List.getElem_cons_succ, List.getElem_cons_zero, List.setIfInBounds_toArray, List.set_cons_zero, List.set_cons_succ])
        refine wpAnyH_ready (rs := [22]) (by kernel_rfl) (by simp) ?_
        refine AllReadyH.cons rfl (fun K hK => ?_) AllReadyH.nil
        (try simp only [List.getElem_toArray, List.getElem_cons_succ, List.getElem_cons_zero])
        go_simp
        obtain ⟨kk, hkk⟩ := (TreeOne.one_ev _ x (Nat.le_refl _) szx x).rounds
        rw [HOO.out] at hkk
        refine (gossamerref02_One.calls kk x.f0 x.f1 x.f2 x.f3 _ _ x.f4 x.f0 x.f1 x.f2 x.f3 _ _ x.f4 true _ C7.out hc7 (Kd.C_below Cx.out hHeld.2.2.2.2.2.2.2.2.2.2.2.2.2.2.2.2.2.2.2.2) hc5 hkk).mono ?_
        rintro e w9 ⟨rfl, hb⟩
        clear hkk
        simp only []
        refine hK.out _ _ ?_ (fun hHeld => ?_)
        · (try dsimp only); exact keepS20 hHeld hb
        clear hK K
        (try simp only [Act.put, List.getElem_toArray, List.getElem_cons_succ, List.getElem_cons_zero, List.setIfInBounds_toArray, List.set_cons_zero, List.set_cons_succ])
        refine wpAnyH_take (i := 23) (v := ?_) rfl (by kernel_rfl) (by kernel_rfl) (by kernel_rfl) (fun _ _ _ h => h) (Or.inl ⟨by kernel_rfl, ?_⟩) (by assumption) ?_
        rotate_left 1
        · (intro w hSw; (try dsimp only at hSw); (try simp only [List.getElem_toArray, List.getElem_cons_succ, List.getElem_cons_zero]); go_simp; (try with_reducible rfl))
        (try simp only [Act.put, List.getElem_toArray, List.getElem_cons_succ, List.getElem_cons_zero, List.setIfInBounds_toArray, List.set_cons_zero, List.set_cons_succ])
        refine wpAnyH_take (i := 24) (v := ?_) rfl (by kernel_rfl) (by kernel_rfl) (by kernel_rfl) (fun _ _ _ h => h) (Or.inl ⟨by kernel_rfl, ?_⟩) (by assumption) ?_
        rotate_left 1
        · (intro w hSw; (try dsimp only at hSw); (try simp only [List.getElem_toArray, List.getElem_cons_succ, List.getElem_cons_zero]); go_simp; (try with_reducible rfl))
        (try simp only [Act.put, List.getElem_toArray, List.getElem_cons_succ, List.getElem_cons_zero, List.setIfInBounds_toArray, List.set_cons_zero, List.set_cons_succ])
        refine wpAnyH_done (by kernel_rfl) ?_ _
        have hb := hHeld.2.2.2.2.2.2.2.2.2.2.2.2.2.2.2.2.2.2.2.2
        clear hHeld
        have n0_ := Lib.hid (below_step HB.out hb)
        have nCa := Lib.hid (Kd.C_below Ca.out hb); have nBa := Lib.hid (blk_below Ba.out hb)
        have nCb := Lib.hid (Kd.C_below Cb.out hb); have nBb := Lib.hid (blk_below Bb.out hb)
        have nCx := Lib.hid (Kd.C_below Cx.out hb); have nBx := Lib.hid (blk_below Bx.out hb)
        have nCy := Lib.hid (Kd.C_below Cy.out hb); have nBy := Lib.hid (blk_below By.out hb)
        clear HB hb Ca Ba Cb Bb Cx Bx Cy By a0 a1 a2 a3 a4 b0 b1 b2 b3 b4 x0 x1 x2 x3 x4 y0 y1 y2 y3 y4
        have HB := n0_
        have Ca := nCa; have Ba := nBa
        have Cb := nCb; have Bb := nBb
        have Cx := nCx; have Bx := nBx
        have Cy := nCy; have By := nBy
        clear n0_ nCa nBa nCb nBb nCx nBx nCy nBy
        have a0 := blk_cell Ba.out 0
        have a1 := blk_cell Ba.out 1
        have a2 := blk_cell Ba.out 2
        have a3 := blk_cell Ba.out 3
        have a4 := blk_cell Ba.out 4
        have b0 := blk_cell Bb.out 0
        have b1 := blk_cell Bb.out 1
        have b2 := blk_cell Bb.out 2
        have b3 := blk_cell Bb.out 3
        have b4 := blk_cell Bb.out 4
        have x0 := blk_cell Bx.out 0
        have x1 := blk_cell Bx.out 1
        have x2 := blk_cell Bx.out 2
        have x3 := blk_cell Bx.out 3
        have x4 := blk_cell Bx.out 4
        have y0 := blk_cell By.out 0
        have y1 := blk_cell By.out 1
        have y2 := blk_cell By.out 2
        have y3 := blk_cell By.out 3
        have y4 := blk_cell By.out 4
        simp only [List.getElem?_toArray, List.getElem?_cons_zero, List.getElem?_cons_succ] at a0 a1 a2 a3 a4 b0 b1 b2 b3 b4 x0 x1 x2 x3 x4 y0 y1 y2 y3 y4
        go_upto_region 7 with (fail)
        refine wp_region_held_drew (S := (fun w' => w'.cell? ⟨w.heap.size, 0, none⟩ = some (.int .i64 a.f0) ∧ w'.cell? ⟨w.heap.size, 1, none⟩ = some (.string a.f1) ∧ w'.cell? ⟨w.heap.size, 2, none⟩ = some (.int .i64 a.f2) ∧ w'.cell? ⟨w.heap.size, 3, none⟩ = some (.int .i64 a.f3) ∧ w'.cell? ⟨w.heap.size, 4, none⟩ = some (.slice Aa a.f4.length ca) ∧ w'.cell? ⟨w.heap.size + 1, 0, none⟩ = some (.int .i64 b.f0) ∧ w'.cell? ⟨w.heap.size + 1, 1, none⟩ = some (.string b.f1) ∧ w'.cell? ⟨w.heap.size + 1, 2, none⟩ = some (.int .i64 b.f2) ∧ w'.cell? ⟨w.heap.size + 1, 3, none⟩ = some (.int .i64 b.f3) ∧ w'.cell? ⟨w.heap.size + 1, 4, none⟩ = some (.slice Ab b.f4.length cb) ∧ w'.cell? ⟨g5, 0, none⟩ = some (.int .i64 x.f0) ∧ w'.cell? ⟨g5, 1, none⟩ = some (.string x.f1) ∧ w'.cell? ⟨g5, 2, none⟩ = some (.int .i64 x.f2) ∧ w'.cell? ⟨g5, 3, none⟩ = some (.int .i64 x.f3) ∧ w'.cell? ⟨g5, 4, none⟩ = some (.slice A5 x.f4.length c5) ∧ w'.cell? ⟨g6, 0, none⟩ = some (.int .i64 y.f0) ∧ w'.cell? ⟨g6, 1, none⟩ = some (.string y.f1) ∧ w'.cell? ⟨g6, 2, none⟩ = some (.int .i64 y.f2) ∧ w'.cell? ⟨g6, 3, none⟩ = some (.int .i64 y.f3) ∧ w'.cell? ⟨g6, 4, none⟩ = some (.slice A6 y.f4.length c6) ∧ Below w9.heap.size w9 w')) (by kernel_rfl) (by (try dsimp only); exact keepS20 ⟨a0, a1, a2, a3, a4, b0, b1, b2, b3, b4, x0, x1, x2, x3, x4, y0, y1, y2, y3, y4, Below.refl _ _⟩ (below_drew1 (Below.refl _ _))) (fun hHeld => ?_)
        change wpAnyH _ _ _ _ _ 24 #[false, false, false, false, false, false, false, false, false, false, false, false, false, false, false, false, false, false, false, false, false, false, false, false] _ _
        refine wpAnyH_take (i := 0) (v := ?_) rfl (by kernel_rfl) (by kernel_rfl) (by kernel_rfl) (fun _ _ _ h => h) (Or.inl ⟨by kernel_rfl, ?_⟩) (by assumption) ?_
        rotate_left 1
        · (intro w hSw; (try dsimp only at hSw); (try simp only [List.getElem_toArray, List.getElem_cons_succ, List.getElem_cons_zero]); go_simp; (try with_reducible rfl))
        (try simp only [Act.put, List.getElem_toArray, List.getElem_cons_succ, List.getElem_cons_zero, List.setIfInBounds_toArray, List.set_cons_zero, List.set_cons_succ])
        refine wpAnyH_take (i := 1) (v := ?_) rfl (by kernel_rfl) (by kernel_rfl) (by kernel_rfl) (fun _ _ _ h => h) (Or.inl ⟨by kernel_rfl, ?_⟩) (by assumption) ?_
        rotate_left 1
        · (intro w hSw; (try dsimp only at hSw); (try simp only [List.getElem_toArray, List.getElem_cons_succ, List.getElem_cons_zero]); go_simp; (try with_reducible rfl))
        (try simp only [Act.put, List.getElem_toArray, List.getElem_cons_succ, List.getElem_cons_zero, List.setIfInBounds_toArray, List.set_cons_zero, List.set_cons_succ])
        refine wpAnyH_take (i := 2) (v := ?_) rfl (by kernel_rfl) (by kernel_rfl) (by kernel_rfl) (fun _ _ _ h => h) (Or.inl ⟨by kernel_rfl, ?_⟩) (by assumption) ?_
        rotate_left 1
        · (intro w hSw; (try dsimp only at hSw); (try simp only [List.getElem_toArray, List.getElem_cons_succ, List.getElem_cons_zero]); go_simp; (try with_reducible rfl))
        (try simp only [Act.put, List.getElem_toArray, List.getElem_cons_succ, List.getElem_cons_zero, List.setIfInBounds_toArray, List.set_cons_zero, List.set_cons_succ])
        refine wpAnyH_take (i := 3) (v := ?_) rfl (by kernel_rfl) (by kernel_rfl) (by kernel_rfl) (fun _ _ _ h => h) (Or.inl ⟨by kernel_rfl, ?_⟩) (by assumption) ?_
        rotate_left 1
        · (intro w hSw; (try dsimp only at hSw); (try simp only [List.getElem_toArray, List.getElem_cons_succ, List.getElem_cons_zero]); go_simp; (try with_reducible rfl))
        (try simp only [Act.put, List.getElem_toArray, List.getElem_cons_succ, List.getElem_cons_zero, List.setIfInBounds_toArray, List.set_cons_zero, List.set_cons_succ])
        refine wpAnyH_take (i := 5) (v := ?_) rfl (by kernel_rfl) (by kernel_rfl) (by kernel_rfl) (fun _ _ _ h => h) (Or.inl ⟨by kernel_rfl, ?_⟩) (by assumption) ?_
        rotate_left 1
        · (intro w hSw; (try dsimp only at hSw); (try simp only [List.getElem_toArray, List.getElem_cons_succ, List.getElem_cons_zero]); go_simp; (try with_reducible rfl))
        (try simp only [Act.put, List.getElem_toArray, List.getElem_cons_succ, List.getElem_cons_zero, List.setIfInBounds_toArray, List.set_cons_zero, List.set_cons_succ])
        refine wpAnyH_ready (rs := [4]) (by kernel_rfl) (by simp) ?_
        refine AllReadyH.cons rfl (fun K hK => ?_) AllReadyH.nil
        (try simp only [List.getElem_toArray, List.getElem_cons_succ, List.getElem_cons_zero])
        go_simp
        obtain ⟨kk, hkk⟩ := (TreeEv.depth_ev _ a (Nat.le_refl _) sza).rounds
        refine (tree_Depth.calls kk a.f0 a.f1 a.f2 a.f3 _ _ a.f4 _ _ (Kd.C_below Ca.out hHeld.2.2.2.2.2.2.2.2.2.2.2.2.2.2.2.2.2.2.2.2) hla hkk).mono ?_
        rintro e w9 ⟨rfl, hb⟩
        clear hkk
        simp only []
        refine hK.out _ _ ?_ (fun hHeld => ?_)
        · (try dsimp only); exact keepS20 hHeld hb
        clear hK K
        (try simp only [Act.put, List.getElem_toArray, List.getElem_cons_succ, List.getElem_cons_zero, List.setIfInBounds_toArray, List.set_cons_zero, List.set_cons_succ])
        refine wpAnyH_ready (rs := [6]) (by kernel_rfl) (by simp) ?_
        refine AllReadyH.cons rfl (fun K hK => ?_) AllReadyH.nil
        (try simp only [List.getElem_toArray, List.getElem_cons_succ, List.getElem_cons_zero])
        go_simp
        obtain ⟨kk, hkk⟩ := (TreeEv.depth_ev _ b (Nat.le_refl _) szb).rounds
        rw [HH.out] at hkk
        refine (tree_Depth.calls kk b.f0 b.f1 b.f2 b.f3 _ _ b.f4 _ _ (Kd.C_below Cb.out hHeld.2.2.2.2.2.2.2.2.2.2.2.2.2.2.2.2.2.2.2.2) hlb hkk).mono ?_
        rintro e w9 ⟨rfl, hb⟩
        clear hkk
        simp only []
        refine hK.out _ _ ?_ (fun hHeld => ?_)
        · (try dsimp only); exact keepS20 hHeld hb
        clear hK K
        (try simp only [Act.put, List.getElem_toArray, List.getElem_cons_succ, List.getElem_cons_zero, List.setIfInBounds_toArray, List.set_cons_zero, List.set_cons_succ])
        refine wpAnyH_take (i := 7) (v := ?_) rfl (by kernel_rfl) (by kernel_rfl) (by kernel_rfl) (fun _ _ _ h => h) (Or.inl ⟨by kernel_rfl, ?_⟩) (by assumption) ?_
        rotate_left 1
        · (intro w hSw; (try dsimp only at hSw); (try simp only [List.getElem_toArray, List.getElem_cons_succ, List.getElem_cons_zero]); go_simp; (try with_reducible rfl))
        (try simp only [Act.put, List.getElem_toArray, List.getElem_cons_succ, List.getElem_cons_zero, List.setIfInBounds_toArray, List.set_cons_zero, List.set_cons_succ])
        refine wpAnyH_take (i := 8) (v := ?_) rfl (by kernel_rfl) (by kernel_rfl) (by kernel_rfl) (fun _ _ _ h => h) (Or.inl ⟨by kernel_rfl, ?_⟩) (by assumption) ?_
        rotate_left 1
        · (intro w hSw; (try dsimp only at hSw); (try simp only [List.getElem_toArray, List.getElem_cons_succ, List.getElem_cons_zero]); go_simp; (try with_reducible rfl))
        (try simp only [Act.put, List.getElem_toArray, List.getElem_cons_succ, List.getElem_cons_zero, List.setIfInBounds_toArray, List.set_cons_zero, List.set_cons_succ])
        refine wpAnyH_take (i := 9) (v := ?_) rfl (by kernel_rfl) (by kernel_rfl) (by kernel_rfl) (fun _ _ _ h => h) (Or.inl ⟨by kernel_rfl, ?_⟩) (by assumption) ?_
        rotate_left 1
        · (intro w hSw; (try dsimp only at hSw); (try simp only [List.getElem_toArray, List.getElem_cons_succ, List.getElem_cons_zero]); go_simp; (try with_reducible rfl))
        (try simp only [Act.put, List.getElem_toArray, List.getElem_cons_succ, List.getElem_cons_zero, List.setIfInBounds_toArray, List.set_cons_zero, List.set_cons_succ])
        refine wpAnyH_take (i := 11) (v := ?_) rfl (by kernel_rfl) (by kernel_rfl) (by kernel_rfl) (fun _ _ _ h => h) (Or.inl ⟨by kernel_rfl, ?_⟩) (by assumption) ?_
        rotate_left 1
        · (intro w hSw; (try dsimp only at hSw); (try simp only [List.getElem_toArray, List.getElem_cons_succ, List.getElem_cons_zero]); go_simp; (try with_reducible rfl))
        (try simp only [Act.put, List.getElem_toArray, List.getElem_cons_succ, List.getElem_cons_zero, List.setIfInBounds_toArray, List.set_cons_zero, List.set_cons_succ])
        refine wpAnyH_ready (rs := [10]) (by kernel_rfl) (by simp) ?_
        refine AllReadyH.cons rfl (fun K hK => ?_) AllReadyH.nil
        (try simp only [List.getElem_toArray, List.getElem_cons_succ, List.getElem_cons_zero])
        go_simp
        obtain ⟨kk, hkk⟩ := (TreeEv.size_ev _ a (Nat.le_refl _) sza).rounds
        refine (tree_Size.calls kk a.f0 a.f1 a.f2 a.f3 _ _ a.f4 _ _ (Kd.C_below Ca.out hHeld.2.2.2.2.2.2.2.2.2.2.2.2.2.2.2.2.2.2.2.2) hla hkk).mono ?_
        rintro e w9 ⟨rfl, hb⟩
        clear hkk
        simp only []
        refine hK.out _ _ ?_ (fun hHeld => ?_)
        · (try dsimp only); exact keepS20 hHeld hb
        clear hK K
        (try simp only [Act.put, List.getElem_toArray, List.getElem_cons_succ, List.getElem_cons_zero, List.setIfInBounds_toArray, List.set_cons_zero, List.set_cons_succ])
        refine wpAnyH_ready (rs := [12]) (by kernel_rfl) (by simp) ?_
        refine AllReadyH.cons rfl (fun K hK => ?_) AllReadyH.nil
        (try simp only [List.getElem_toArray, List.getElem_cons_succ, List.getElem_cons_zero])
        go_simp
        obtain ⟨kk, hkk⟩ := (TreeEv.size_ev _ b (Nat.le_refl _) szb).rounds
        rw [HZ.out] at hkk
        refine (tree_Size.calls kk b.f0 b.f1 b.f2 b.f3 _ _ b.f4 _ _ (Kd.C_below Cb.out hHeld.2.2.2.2.2.2.2.2.2.2.2.2.2.2.2.2.2.2.2.2) hlb hkk).mono ?_
        rintro e w9 ⟨rfl, hb⟩
        clear hkk
        simp only []
        refine hK.out _ _ ?_ (fun hHeld => ?_)
        · (try dsimp only); exact keepS20 hHeld hb
        clear hK K
        (try simp only [Act.put, List.getElem_toArray, List.getElem_cons_succ, List.getElem_cons_zero, List.setIfInBounds_toArray, List.set_cons_zero, List.set_cons_succ])
        refine wpAnyH_take (i := 13) (v := ?_) rfl (by kernel_rfl) (by kernel_rfl) (by kernel_rfl) (fun _ _ _ h => h) (Or.inl ⟨by kernel_rfl, ?_⟩) (by assumption) ?_
        rotate_left 1
        · (intro w hSw; (try dsimp only at hSw); (try simp only [List.getElem_toArray, List.getElem_cons_succ, List.getElem_cons_zero]); go_simp; (try with_reducible rfl))
        (try simp only [Act.put, List.getElem_toArray, List.getElem_cons_succ, List.getElem_cons_zero, List.setIfInBounds_toArray, List.set_cons_zero, List.set_cons_succ])
        refine wpAnyH_take (i := 14) (v := ?_) rfl (by kernel_rfl) (by kernel_rfl) (by kernel_rfl) (fun _ _ _ h => h) (Or.inl ⟨by kernel_rfl, ?_⟩) (by assumption) ?_
        rotate_left 1
        · (intro w hSw; (try dsimp only at hSw); (try simp only [List.getElem_toArray, List.getElem_cons_succ, List.getElem_cons_zero]); go_simp; (try with_reducible rfl))
        (try simp only [Act.put, List.getElem_toArray, List.getElem_cons_succ, List.getElem_cons_zero, List.setIfInBounds_toArray, List.set_cons_zero, List.set_cons_succ])
        refine wpAnyH_take (i := 15) (v := ?_) rfl (by kernel_rfl) (by kernel_rfl) (by kernel_rfl) (fun _ _ _ h => h) (Or.inl ⟨by kernel_rfl, ?_⟩) (by assumption) ?_
        rotate_left 1
        · (intro w hSw; (try dsimp only at hSw); (try simp only [List.getElem_toArray, List.getElem_cons_succ, List.getElem_cons_zero]); go_simp; (try with_reducible rfl))
        (try simp only [Act.put, List.getElem_toArray, List.getElem_cons_succ, List.getElem_cons_zero, List.setIfInBounds_toArray, List.set_cons_zero, List.set_cons_succ])
        refine wpAnyH_take (i := 16) (v := ?_) rfl (by kernel_rfl) (by kernel_rfl) (by kernel_rfl) (fun _ _ _ h => h) (Or.inl ⟨by kernel_rfl, ?_⟩) (by assumption) ?_
        rotate_left 1
        · (intro w hSw; (try dsimp only at hSw); (try simp only [List.getElem_toArray, List.getElem_cons_succ, List.getElem_cons_zero]); go_simp; (try with_reducible rfl))
        (try simp only [Act.put, List.getElem_toArray, List.getElem_cons_succ, List.getElem_cons_zero, List.setIfInBounds_toArray, List.set_cons_zero, List.set_cons_succ])
        refine wpAnyH_take (i := 18) (v := ?_) rfl (by kernel_rfl) (by kernel_rfl) (by kernel_rfl) (fun _ _ _ h => h) (Or.inl ⟨by kernel_rfl, ?_⟩) (by assumption) ?_
        rotate_left 1
        · (intro w hSw; (try dsimp only at hSw); (try simp only [List.getElem_toArray, List.getElem_cons_succ, List.getElem_cons_zero]); go_simp; (try with_reducible rfl))
        (try simp only [Act.put, List.getElem_toArray, List.getElem_cons_succ, List.getElem_cons_zero, List.setIfInBounds_toArray, List.set_cons_zero, List.set_cons_succ])
        refine wpAnyH_ready (rs := [17]) (by kernel_rfl) (by simp) ?_
        refine AllReadyH.cons rfl (fun K hK => ?_) AllReadyH.nil
        (try simp only [List.getElem_toArray, List.getElem_cons_succ, List.getElem_cons_zero])
        go_simp
        refine ((TreeMay.whole_any x (by omega) _ _ _ (Kd.C_below Cx.out hHeld.2.2.2.2.2.2.2.2.2.2.2.2.2.2.2.2.2.2.2.2) hc5 (HT.out.on (below_step HB.out hHeld.2.2.2.2.2.2.2.2.2.2.2.2.2.2.2.2.2.2.2.2)).here).mono fun e w' h => (⟨h.1.trans (by rw [WX.out]), h.2⟩ : e = .returned (.bool wx) ∧ _)).mono ?_
        rintro e w9 ⟨rfl, hb⟩
        simp only []
        refine hK.out _ _ ?_ (fun hHeld => ?_)
        · (try dsimp only); exact keepS20 hHeld hb
        clear hK K
        (try simp only [Act.put, List.getElem_toArray, List.getElem_cons_succ, List.getElem_cons_zero, List.setIfInBounds_toArray, List.set_cons_zero, List.set_cons_succ])
        refine wpAnyH_ready (rs := [19]) (by kernel_rfl) (by simp) ?_
        refine AllReadyH.cons rfl (fun K hK => ?_) AllReadyH.nil
        (try simp only [List.getElem_toArray, List.getElem_cons_succ, List.getElem_cons_zero])
        go_simp
        refine ((TreeMay.whole_any y (by omega) _ _ _ (Kd.C_below Cy.out hHeld.2.2.2.2.2.2.2.2.2.2.2.2.2.2.2.2.2.2.2.2) hc6 (HT.out.on (below_step HB.out hHeld.2.2.2.2.2.2.2.2.2.2.2.2.2.2.2.2.2.2.2.2)).here).mono fun e w' h => (⟨h.1.trans (by rw [WY.out]), h.2⟩ : e = .returned (.bool wx) ∧ _)).mono ?_
        rintro e w9 ⟨rfl, hb⟩
        simp only []
        refine hK.out _ _ ?_ (fun hHeld => ?_)
        · (try dsimp only); exact keepS20 hHeld hb
        clear hK K
        (try simp only [Act.put, List.getElem_toArray, List.getElem_cons_succ, List.getElem_cons_zero, List.setIfInBounds_toArray, List.set_cons_zero, List.set_cons_succ])
        refine wpAnyH_take (i := 20) (v := ?_) rfl (by kernel_rfl) (by kernel_rfl) (by kernel_rfl) (fun _ _ _ h => h) (Or.inl ⟨by kernel_rfl, ?_⟩) (by assumption) ?_
        rotate_left 1
        · (intro w hSw; (try dsimp only at hSw); (try simp only [List.getElem_toArray, List.getElem_cons_succ, List.getElem_cons_zero]); go_simp; (try with_reducible rfl))
        (try simp only [Act.put, List.getElem_toArray, List.getElem_cons_succ, List.getElem_cons_zero, List.setIfInBounds_toArray, List.set_cons_zero, List.set_cons_succ])
        refine wpAnyH_take (i := 21) (v := ?_) rfl (by kernel_rfl) (by kernel_rfl) (by kernel_rfl) (fun _ _ _ h => h) (Or.inl ⟨by kernel_rfl, ?_⟩) (by assumption) ?_
        rotate_left 1
        · (intro w hSw; (try dsimp only at hSw); (try simp only [List.getElem_toArray, List.getElem_cons_succ, List.getElem_cons_zero]); go_simp; (try with_reducible rfl))
        (try simp only [Act.put, List.getElem_toArray, List.getElem_cons_succ, List.getElem_cons_zero, List.setIfInBounds_toArray, List.set_cons_zero, List.set_cons_succ])
        refine wpAnyH_take (i := 22) (v := ?_) rfl (by kernel_rfl) (by kernel_rfl) (by kernel_rfl) (fun _ _ _ h => h) (Or.inl ⟨by kernel_rfl, ?_⟩) (by assumption) ?_
        rotate_left 1
        · (intro w hSw; (try dsimp only at hSw); (try simp only [List.getElem_toArray, List.getElem_cons_succ, List.getElem_cons_zero]); go_simp; (try with_reducible rfl))
        (try simp only [Act.put, List.getElem_toArray, List.getElem_cons_succ, List.getElem_cons_zero, List.setIfInBounds_toArray, List.set_cons_zero, List.set_cons_succ])
        refine wpAnyH_take (i := 23) (v := ?_) rfl (by kernel_rfl) (by kernel_rfl) (by kernel_rfl) (fun _ _ _ h => h) (Or.inl ⟨by kernel_rfl, ?_⟩) (by assumption) ?_
        rotate_left 1
        · (intro w hSw; (try dsimp only at hSw); (try simp only [List.getElem_toArray, List.getElem_cons_succ, List.getElem_cons_zero]); go_simp; (try with_reducible rfl))
        (try simp only [Act.put, List.getElem_toArray, List.getElem_cons_succ, List.getElem_cons_zero, List.setIfInBounds_toArray, List.set_cons_zero, List.set_cons_succ])
        refine wpAnyH_done (by kernel_rfl) ?_ _
        have HB9 := Lib.hid (below_step HB.out hHeld.2.2.2.2.2.2.2.2.2.2.2.2.2.2.2.2.2.2.2.2)
        clear hHeld
        go_wp2_with fail
        go_ret
        exact ⟨rfl, HB9.out⟩
end Go.Proofs.YthdkjfhpbigdpaaDoor.Pure
