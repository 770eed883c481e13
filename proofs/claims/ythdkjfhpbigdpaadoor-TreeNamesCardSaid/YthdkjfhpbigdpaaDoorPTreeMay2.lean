-- Written for this claim.
import Derived.Test.YthdkjfhpbigdpaaDoorQx8
import Derived.Test.YthdkjfhpbigdpaaDoorQx18
import Derived.Test.YthdkjfhpbigdpaaDoorPTreeMay
import Derived.Deep.RegionWith
namespace Go.Proofs.YthdkjfhpbigdpaaDoor.Pure
open Go Go.RowKit Go.Lib Go.Proofs Go.Proofs.YthdkjfhpbigdpaaDoor.Q Go.Proofs.YthdkjfhpbigdpaaDoorW.PrintWords Go.Proofs.YthdkjfhpbigdpaaDoorW.PrintLast Go.Proofs.YthdkjfhpbigdpaaDoorW.PrintMore
open HTree
namespace TreeMay
set_option linter.unusedVariables false
set_option linter.unusedSimpArgs false
theorem keep5 {p0 : Addr} {p1 : Addr} {p2 : Addr} {p3 : Addr} {p4 : Addr} {v0 : Value} {v1 : Value} {v2 : Value} {v3 : Value} {v4 : Value} {wq w1 w2 : World}
    (h : w1.cell? p0 = some v0 ∧ w1.cell? p1 = some v1 ∧ w1.cell? p2 = some v2 ∧ w1.cell? p3 = some v3 ∧ w1.cell? p4 = some v4 ∧ Below wq.heap.size wq w1) (hb : Below w1.heap.size w1 w2) :
    w2.cell? p0 = some v0 ∧ w2.cell? p1 = some v1 ∧ w2.cell? p2 = some v2 ∧ w2.cell? p3 = some v3 ∧ w2.cell? p4 = some v4 ∧ Below wq.heap.size wq w2 := by
  obtain ⟨h0, h1, h2, h3, h4, h5⟩ := h
  exact ⟨(hb.cell (World.block_lt_of_cell? _ _ h0)).trans h0, (hb.cell (World.block_lt_of_cell? _ _ h1)).trans h1, (hb.cell (World.block_lt_of_cell? _ _ h2)).trans h2, (hb.cell (World.block_lt_of_cell? _ _ h3)).trans h3, (hb.cell (World.block_lt_of_cell? _ _ h4)).trans h4, below_step h5 hb⟩
theorem may_is (t : T) : may t = (known t.f0 && decide (least t.f0 ≤ (t.f4.length : Int)) && decide ((t.f4.length : Int) ≤ most t.f0) && named t.f1 (what t.f0) && number t.f0 t.f2 t.f4.length && decide (0 ≤ t.f3) && parts t.f0 t.f2 t.f4 0) := by cases t; rfl
set_option maxRecDepth 100000 in
set_option maxHeartbeats 16000000 in
theorem may_step (t : T) (hl9 : t.f4.length ≤ 1000000000) (hs : t.f1.size ≤ 1000000000) (H : ∀ x ∈ t.f4, MayC x) : MayC t := by
  intro w A c hC hl htab
  have HT := Lib.hid (tabBelow_of_tabIs htab)
  clear htab
  have HH := Lib.hid H
  clear H
  have hba := below_alloc (Below.refl w.heap.size w) (Obj.cells #[.int .i64 t.f0, .string t.f1, .int .i64 t.f2, .int .i64 t.f3, .slice A t.f4.length c] 24)
  have h1 := blk_new w (Obj.cells #[.int .i64 t.f0, .string t.f1, .int .i64 t.f2, .int .i64 t.f3, .slice A t.f4.length c] 24)
  go_enter Tryd.func21, Tryd.ntmps21
  go_upto_region 1 with (fail)
  generalize hwq : w.alloc (Obj.cells #[.int .i64 t.f0, .string t.f1, .int .i64 t.f2, .int .i64 t.f3, .slice A t.f4.length c] 24) = wq at hba h1 ⊢
  clear hwq
  have HB := Lib.hid hba; have Bt := Lib.hid h1; have Ct := Lib.hid (Kd.C_below hC hba)
  clear hba h1 hC
  have t0 := blk_cell Bt.out 0; have t1 := blk_cell Bt.out 1; have t2 := blk_cell Bt.out 2; have t3 := blk_cell Bt.out 3; have t4 := blk_cell Bt.out 4
  simp only [List.getElem?_toArray, List.getElem?_cons_zero, List.getElem?_cons_succ] at t0 t1 t2 t3 t4
  refine wp_region_held_drew (S := (fun w' => w'.cell? ⟨w.heap.size, 0, none⟩ = some (.int .i64 t.f0) ∧ w'.cell? ⟨w.heap.size, 1, none⟩ = some (.string t.f1) ∧ w'.cell? ⟨w.heap.size, 2, none⟩ = some (.int .i64 t.f2) ∧ w'.cell? ⟨w.heap.size, 3, none⟩ = some (.int .i64 t.f3) ∧ w'.cell? ⟨w.heap.size, 4, none⟩ = some (.slice A t.f4.length c) ∧ Below wq.heap.size wq w')) (by kernel_rfl) (by (try dsimp only); exact keep5 ⟨t0, t1, t2, t3, t4, Below.refl _ _⟩ (below_drew1 (Below.refl _ _))) (fun hHeld => ?_)
  refine wpAnyH_take (i := 1) (v := ?_) rfl (by kernel_rfl) (by kernel_rfl) (by kernel_rfl) (fun _ _ _ h => h) (Or.inl ⟨by rfl, ?_⟩) (by assumption) ?_
  rotate_left 1
  · (intro w hSw; (try dsimp only at hSw); (try simp only [List.getElem_toArray, List.getElem_cons_succ, List.getElem_cons_zero]); go_simp; (try with_reducible rfl))
  (try simp only [Act.put, List.getElem_toArray, List.getElem_cons_succ, List.getElem_cons_zero, List.setIfInBounds_toArray, List.set_cons_zero, List.set_cons_succ])
  refine wpAnyH_take (i := 2) (v := ?_) rfl (by kernel_rfl) (by kernel_rfl) (by kernel_rfl) (fun _ _ _ h => h) (Or.inl ⟨by rfl, ?_⟩) (by assumption) ?_
  rotate_left 1
  · (intro w hSw; (try dsimp only at hSw); (try simp only [List.getElem_toArray, List.getElem_cons_succ, List.getElem_cons_zero]); go_simp; (try with_reducible rfl))
  (try simp only [Act.put, List.getElem_toArray, List.getElem_cons_succ, List.getElem_cons_zero, List.setIfInBounds_toArray, List.set_cons_zero, List.set_cons_succ])
  refine wpAnyH_ready (rs := [0, 7]) (by kernel_rfl) (by simp) ?_
  refine AllReadyH.cons rfl (fun K hK => ?_) (AllReadyH.cons rfl (fun K hK => ?_) (AllReadyH.nil))
  · (try simp only [List.getElem_toArray, List.getElem_cons_succ, List.getElem_cons_zero])
    go_simp
    refine (TreeMap.shapes_any _).mono ?_
    rintro e w9 ⟨rfl, h9⟩
    have mb : w9.heap[wq.heap.size]? = some (Obj.map (TreeMap.ents 10) 10) := by rw [h9]; exact blk_new _ _
    have hb : Below wq.drew.heap.size wq.drew w9 := by rw [h9]; exact below_alloc (Below.refl _ _) _
    clear h9
    simp only []
    refine hK.out _ _ ?_ (fun hHeld => ?_)
    · (try dsimp only); exact keep5 hHeld hb
    clear hK K
    (try simp only [Act.put, List.getElem_toArray, List.getElem_cons_succ, List.getElem_cons_zero, List.setIfInBounds_toArray, List.set_cons_zero, List.set_cons_succ])
    have hlk := look t.f0 w9 _ mb
    refine wpAnyH_ready (rs := [3, 7]) (by kernel_rfl) (by simp) ?_
    refine AllReadyH.cons rfl (fun K hK => ?_) (AllReadyH.cons rfl (fun K hK => ?_) (AllReadyH.nil))
    · (try simp only [List.getElem_toArray, List.getElem_cons_succ, List.getElem_cons_zero])
      go_simp
      refine hK.out _ _ ?_ (fun hHeld => ?_)
      · (try dsimp only); exact hHeld
      clear hK K
      (try simp only [Act.put, List.getElem_toArray, List.getElem_cons_succ, List.getElem_cons_zero, List.setIfInBounds_toArray, List.set_cons_zero, List.set_cons_succ])
      refine wpAnyH_take (i := 4) (v := ?_) rfl (by kernel_rfl) (by kernel_rfl) (by kernel_rfl) (fun _ _ _ h => h) (Or.inl ⟨by rfl, ?_⟩) (by assumption) ?_
      rotate_left 1
      · (intro w hSw; (try dsimp only at hSw); (try simp only [List.getElem_toArray, List.getElem_cons_succ, List.getElem_cons_zero]); go_simp; (try with_reducible rfl))
      (try simp only [Act.put, List.getElem_toArray, List.getElem_cons_succ, List.getElem_cons_zero, List.setIfInBounds_toArray, List.set_cons_zero, List.set_cons_succ])
      refine wpAnyH_take (i := 5) (v := ?_) rfl (by kernel_rfl) (by kernel_rfl) (by kernel_rfl) (fun _ _ _ h => h) (Or.inl ⟨by rfl, ?_⟩) (by assumption) ?_
      rotate_left 1
      · (intro w hSw; (try dsimp only at hSw); (try simp only [List.getElem_toArray, List.getElem_cons_succ, List.getElem_cons_zero]); go_simp; (try with_reducible rfl))
      (try simp only [Act.put, List.getElem_toArray, List.getElem_cons_succ, List.getElem_cons_zero, List.setIfInBounds_toArray, List.set_cons_zero, List.set_cons_succ])
      refine wpAnyH_take (i := 6) (v := ?_) rfl (by kernel_rfl) (by kernel_rfl) (by kernel_rfl) (fun _ _ _ h => h) (Or.inl ⟨by rfl, ?_⟩) (by assumption) ?_
      rotate_left 1
      · (intro w hSw; (try dsimp only at hSw); (try simp only [List.getElem_toArray, List.getElem_cons_succ, List.getElem_cons_zero]); go_simp; (try with_reducible rfl))
      (try simp only [Act.put, List.getElem_toArray, List.getElem_cons_succ, List.getElem_cons_zero, List.setIfInBounds_toArray, List.set_cons_zero, List.set_cons_succ])
      refine wpAnyH_ready (rs := [7]) (by kernel_rfl) (by simp) ?_
      refine AllReadyH.cons rfl (fun K hK => ?_) (AllReadyH.nil)
      (try simp only [List.getElem_toArray, List.getElem_cons_succ, List.getElem_cons_zero])
      go_simp
      have hb : Below w9.heap.size w9 (w9.alloc (Obj.cells #[.int .i64 0, .int .i64 0, .int .i64 0] 49)) := below_alloc (Below.refl _ _) _
      have vb : (w9.alloc (Obj.cells #[.int .i64 0, .int .i64 0, .int .i64 0] 49)).heap[w9.heap.size]? = some (Obj.cells #[.int .i64 0, .int .i64 0, .int .i64 0] 49) := blk_new _ _
      generalize w9.alloc (Obj.cells #[.int .i64 0, .int .i64 0, .int .i64 0] 49) = wv at hb vb ⊢
      refine hK.out _ _ ?_ (fun hHeld => ?_)
      · (try dsimp only); exact keep5 hHeld hb
      clear hK K
      (try simp only [Act.put, List.getElem_toArray, List.getElem_cons_succ, List.getElem_cons_zero, List.setIfInBounds_toArray, List.set_cons_zero, List.set_cons_succ])
      have v0 := blk_cell vb 0; have v1 := blk_cell vb 1; have v2 := blk_cell vb 2
      simp only [List.getElem?_toArray, List.getElem?_cons_zero, List.getElem?_cons_succ] at v0 v1 v2
      have z0 := blk_frozen vb 0; have z1 := blk_frozen vb 1; have z2 := blk_frozen vb 2
      have hge : wq.heap.size ≤ w9.heap.size := Nat.le_of_lt (blk_lt mb)
      refine wpAnyH_ready (rs := [8]) (by kernel_rfl) (by simp) ?_
      refine AllReadyH.cons rfl (fun K hK => ?_) (AllReadyH.nil)
      (try simp only [List.getElem_toArray, List.getElem_cons_succ, List.getElem_cons_zero])
      go_simp
      have vb2 : (((wv.setCell ⟨w9.heap.size, 0, none⟩ (.int .i64 (what t.f0))).setCell ⟨w9.heap.size, 1, none⟩ (.int .i64 (least t.f0))).setCell ⟨w9.heap.size, 2, none⟩ (.int .i64 (most t.f0))).heap[w9.heap.size]? = some (Obj.cells #[.int .i64 (what t.f0), .int .i64 (least t.f0), .int .i64 (most t.f0)] 49) := blk_put (blk_put (blk_put vb 0 (.int .i64 (what t.f0)) rfl) 1 (.int .i64 (least t.f0)) rfl) 2 (.int .i64 (most t.f0)) rfl
      have hbs : Below wq.heap.size wq (((wv.setCell ⟨w9.heap.size, 0, none⟩ (.int .i64 (what t.f0))).setCell ⟨w9.heap.size, 1, none⟩ (.int .i64 (least t.f0))).setCell ⟨w9.heap.size, 2, none⟩ (.int .i64 (most t.f0))) := below_set (below_set (below_set hHeld.2.2.2.2.2 hge) hge) hge
      generalize (((wv.setCell ⟨w9.heap.size, 0, none⟩ (.int .i64 (what t.f0))).setCell ⟨w9.heap.size, 1, none⟩ (.int .i64 (least t.f0))).setCell ⟨w9.heap.size, 2, none⟩ (.int .i64 (most t.f0))) = ws at vb2 hbs ⊢
      refine hK.out _ _ ?_ (fun hHeld => ?_)
      · (try dsimp only); exact keep5 ⟨t0, t1, t2, t3, t4, Below.refl _ _⟩ hbs
      clear hK K
      (try simp only [Act.put, List.getElem_toArray, List.getElem_cons_succ, List.getElem_cons_zero, List.setIfInBounds_toArray, List.set_cons_zero, List.set_cons_succ])
      refine wpAnyH_take (i := 9) (v := ?_) rfl (by kernel_rfl) (by kernel_rfl) (by kernel_rfl) (fun _ _ _ h => h) (Or.inl ⟨by rfl, ?_⟩) (by assumption) ?_
      rotate_left 1
      · (intro w hSw; (try dsimp only at hSw); (try simp only [List.getElem_toArray, List.getElem_cons_succ, List.getElem_cons_zero]); go_simp; (try with_reducible rfl))
      (try simp only [Act.put, List.getElem_toArray, List.getElem_cons_succ, List.getElem_cons_zero, List.setIfInBounds_toArray, List.set_cons_zero, List.set_cons_succ])
      refine wpAnyH_done (by kernel_rfl) ?_ _
      have Bs := Lib.hid vb2
      have n0_ := Lib.hid (below_step HB.out hbs); have n1_ := Lib.hid (Kd.C_below Ct.out hbs); have n2_ := Lib.hid (blk_below Bt.out hbs)
      clear HB Ct Bt vb vb2 hbs hHeld v0 v1 v2 z0 z1 z2 hlk mb t0 t1 t2 t3 t4 hge
      have HB := n0_; have Ct := n1_; have Bt := n2_
      clear n0_ n1_ n2_
      generalize w9.heap.size = gb at Bs ⊢
      have t0 := blk_cell Bt.out 0; have t1 := blk_cell Bt.out 1; have t2 := blk_cell Bt.out 2; have t3 := blk_cell Bt.out 3; have t4 := blk_cell Bt.out 4
      simp only [List.getElem?_toArray, List.getElem?_cons_zero, List.getElem?_cons_succ] at t0 t1 t2 t3 t4
      have s0 := blk_cell Bs.out 0; have s1 := blk_cell Bs.out 1; have s2 := blk_cell Bs.out 2
      simp only [List.getElem?_toArray, List.getElem?_cons_zero, List.getElem?_cons_succ] at s0 s1 s2
      have MI := Lib.hid (may_is t)
      generalize hwh : what t.f0 = wh at *
      generalize hle : least t.f0 = le at *
      generalize hmo : most t.f0 = mo at *
      generalize hkn : known t.f0 = kn at *
      clear hwh hle hmo hkn
      cases kn with
      | false =>
        have HR : Hid (may t = false) := Lib.hid (by rw [MI.out]; simp)
        go_wp2_with fail
        go_ret
        exact ⟨by rw [HR.out]; rfl, HB.out⟩
      | true =>
        rcases Classical.em ((t.f4.length : Int) < le) with q | q
        · have QN := Lib.hid q
          have bl : decide ((t.f4.length : Int) < le) = true := decide_eq_true q
          clear q
          have HR : Hid (may t = false) := Lib.hid (by rw [MI.out]; rw [decide_eq_false (show ¬ le ≤ (t.f4.length : Int) by have := QN.out; omega)]; simp)
          go_wp2_with fail
          go_ret
          exact ⟨by rw [HR.out]; rfl, HB.out⟩
        · have QN := Lib.hid q
          have bl : decide ((t.f4.length : Int) < le) = false := decide_eq_false q
          clear q
          have QL : Hid (le ≤ (t.f4.length : Int)) := Lib.hid (by have := QN.out; omega)
          clear QN
          rcases Classical.em ((t.f4.length : Int) > mo) with q | q
          · have QN := Lib.hid q
            have bm : decide ((t.f4.length : Int) > mo) = true := decide_eq_true q
            have bm2 : decide (mo < (t.f4.length : Int)) = true := decide_eq_true q
            clear q
            have HR : Hid (may t = false) := Lib.hid (by rw [MI.out]; rw [decide_eq_false (show ¬ (t.f4.length : Int) ≤ mo by have := QN.out; omega)]; simp)
            go_wp2_with fail
            go_ret
            exact ⟨by rw [HR.out]; rfl, HB.out⟩
          · have QN := Lib.hid q
            have bm : decide ((t.f4.length : Int) > mo) = false := decide_eq_false q
            have bm2 : decide (mo < (t.f4.length : Int)) = false := decide_eq_false q
            clear q
            have QM : Hid ((t.f4.length : Int) ≤ mo) := Lib.hid (by have := QN.out; omega)
            clear QN
            obtain ⟨nb, VN⟩ : ∃ q, Hid (named t.f1 wh = q) := ⟨_, Lib.hid rfl⟩
            go_wp2_with fail
            refine ((TreeNm.named_any t.f1 wh hs _ (HT.out.on HB.out).here).mono fun e w' h => (⟨h.1.trans (by rw [VN.out]), h.2⟩ : e = .returned (.bool nb) ∧ _)).mono ?_
            rintro e w5 ⟨rfl, hb⟩
            have n0_ := Lib.hid (below_step HB.out hb); have n1_ := Lib.hid (Kd.C_below Ct.out hb); have n2_ := Lib.hid (blk_below Bt.out hb); have n3_ := Lib.hid (blk_below Bs.out hb)
            clear HB Ct Bt Bs hb t0 t1 t2 t3 t4 s0 s1 s2
            have HB := n0_; have Ct := n1_; have Bt := n2_; have Bs := n3_
            clear n0_ n1_ n2_ n3_
            have t0 := blk_cell Bt.out 0; have t1 := blk_cell Bt.out 1; have t2 := blk_cell Bt.out 2; have t3 := blk_cell Bt.out 3; have t4 := blk_cell Bt.out 4
            simp only [List.getElem?_toArray, List.getElem?_cons_zero, List.getElem?_cons_succ] at t0 t1 t2 t3 t4
            have s0 := blk_cell Bs.out 0; have s1 := blk_cell Bs.out 1; have s2 := blk_cell Bs.out 2
            simp only [List.getElem?_toArray, List.getElem?_cons_zero, List.getElem?_cons_succ] at s0 s1 s2
            cases nb with
            | false =>
              have HR : Hid (may t = false) := Lib.hid (by rw [MI.out]; rw [VN.out]; simp)
              go_wp2_with fail
              go_ret
              exact ⟨by rw [HR.out]; rfl, HB.out⟩
            | true =>
              obtain ⟨ub, VU⟩ : ∃ q, Hid (number t.f0 t.f2 t.f4.length = q) := ⟨_, Lib.hid rfl⟩
              have hnum := TreeNm.number_is t.f0 t.f1 t.f2 t.f3 t.f4 hl9
              rw [VU.out] at hnum
              have NU := Lib.hid hnum
              clear hnum
              go_wp2_with fail
              refine (tree_number.calls t.f0 t.f1 t.f2 t.f3 _ _ t.f4 _ _ Ct.out hl NU.out).mono ?_
              rintro e w5 ⟨rfl, hb⟩
              have n0_ := Lib.hid (below_step HB.out hb); have n1_ := Lib.hid (Kd.C_below Ct.out hb); have n2_ := Lib.hid (blk_below Bt.out hb); have n3_ := Lib.hid (blk_below Bs.out hb)
              clear HB Ct Bt Bs hb t0 t1 t2 t3 t4 s0 s1 s2
              have HB := n0_; have Ct := n1_; have Bt := n2_; have Bs := n3_
              clear n0_ n1_ n2_ n3_
              have t0 := blk_cell Bt.out 0; have t1 := blk_cell Bt.out 1; have t2 := blk_cell Bt.out 2; have t3 := blk_cell Bt.out 3; have t4 := blk_cell Bt.out 4
              simp only [List.getElem?_toArray, List.getElem?_cons_zero, List.getElem?_cons_succ] at t0 t1 t2 t3 t4
              have s0 := blk_cell Bs.out 0; have s1 := blk_cell Bs.out 1; have s2 := blk_cell Bs.out 2
              simp only [List.getElem?_toArray, List.getElem?_cons_zero, List.getElem?_cons_succ] at s0 s1 s2
              clear NU
              cases ub with
              | false =>
                have HR : Hid (may t = false) := Lib.hid (by rw [MI.out]; rw [VU.out]; simp)
                go_wp2_with fail
                go_ret
                exact ⟨by rw [HR.out]; rfl, HB.out⟩
              | true =>
                rcases Classical.em (t.f3 < 0) with q | q
                · have QN := Lib.hid q
                  have ba : decide (t.f3 < 0) = true := decide_eq_true q
                  clear q
                  have HR : Hid (may t = false) := Lib.hid (by rw [MI.out]; rw [decide_eq_false (show ¬ (0 : Int) ≤ t.f3 by have := QN.out; omega)]; simp)
                  go_wp2_with fail
                  go_ret
                  exact ⟨by rw [HR.out]; rfl, HB.out⟩
                · have QN := Lib.hid q
                  have ba : decide (t.f3 < 0) = false := decide_eq_false q
                  clear q
                  have QA : Hid ((0 : Int) ≤ t.f3) := Lib.hid (by have := QN.out; omega)
                  clear QN
                  have MP : Hid (may t = parts t.f0 t.f2 t.f4 0) := Lib.hid (by rw [MI.out, VN.out, VU.out, decide_eq_true QL.out, decide_eq_true QM.out, decide_eq_true QA.out]; simp)
                  go_wp2_with fail
                  go_loopw [52] (fun i wr => ∃ k : Nat, k ≤ t.f4.length ∧ i = .int .i64 k ∧ Hid (may t = parts t.f0 t.f2 (t.f4.drop k) (k : Int)) ∧ Hid (Below w5.heap.size w5 wr)) (fun i _ => t.f4.length - (intOf i).toNat)
                  case atStart => exact ⟨0, Nat.zero_le _, rfl, Lib.hid (by rw [MP.out]; rfl), Lib.hid (Below.refl _ _)⟩
                  case round =>
                    obtain ⟨k, hk, rfl, HP, HBR⟩ := hrel
                    have hb := HBR.out
                    have n0_ := Lib.hid (below_step HB.out hb); have n1_ := Lib.hid (Kd.C_below Ct.out hb); have n2_ := Lib.hid (blk_below Bt.out hb); have n3_ := Lib.hid (blk_below Bs.out hb)
                    clear HB Ct Bt Bs hb t0 t1 t2 t3 t4 s0 s1 s2
                    have HB := n0_; have Ct := n1_; have Bt := n2_; have Bs := n3_
                    clear n0_ n1_ n2_ n3_
                    have t0 := blk_cell Bt.out 0; have t1 := blk_cell Bt.out 1; have t2 := blk_cell Bt.out 2; have t3 := blk_cell Bt.out 3; have t4 := blk_cell Bt.out 4
                    simp only [List.getElem?_toArray, List.getElem?_cons_zero, List.getElem?_cons_succ] at t0 t1 t2 t3 t4
                    have s0 := blk_cell Bs.out 0; have s1 := blk_cell Bs.out 1; have s2 := blk_cell Bs.out 2
                    simp only [List.getElem?_toArray, List.getElem?_cons_zero, List.getElem?_cons_succ] at s0 s1 s2
                    by_cases hlt : k < t.f4.length
                    · obtain ⟨pb, VP⟩ : ∃ q, Hid (HTree.part t.f0 t.f2 t.f4[k] (k : Int) = q) := ⟨_, Lib.hid rfl⟩
                      have hdr : may t = (HTree.part t.f0 t.f2 t.f4[k] (k : Int) && parts t.f0 t.f2 (t.f4.drop (k + 1)) ((k : Int) + 1)) := by rw [HP.out, List.drop_eq_getElem_cons hlt, parts_cons]
                      rw [VP.out] at hdr
                      have HD := Lib.hid hdr
                      have HM := Lib.hid (HH.out _ (List.getElem_mem hlt))
                      clear hdr
                      go_wp2_with fail
                      refine ((part_any t k hlt hl9 HM.out _ _ _ Ct.out hl (HT.out.on HB.out).here).mono fun e w' h => (⟨h.1.trans (by rw [VP.out]), h.2⟩ : e = .returned (.bool pb) ∧ _)).mono ?_
                      rintro e w6 ⟨rfl, hb⟩
                      have HBR7 := Lib.hid (below_step HBR.out hb); have HB7 := Lib.hid (below_step HB.out hb)
                      clear hb
                      cases pb with
                      | true =>
                        go_wp2_with fail
                        exact ⟨⟨k + 1, by omega, by first | rfl | go_num, Lib.hid (by rw [HD.out, Bool.true_and]; norm_cast), HBR7⟩, by simp [intOf]; omega⟩
                      | false =>
                        have HR : Hid (may t = false) := Lib.hid (by rw [HD.out, Bool.false_and])
                        go_wp2_with fail
                        go_ret
                        exact ⟨by rw [HR.out]; rfl, HB7.out⟩
                    · have HR : Hid (may t = true) := Lib.hid (by rw [HP.out, List.drop_eq_nil_of_le (by omega)]; rfl)
                      go_wp2_with fail
                      go_ret
                      exact ⟨by rw [HR.out]; rfl, HB.out⟩
    · (try simp only [List.getElem_toArray, List.getElem_cons_succ, List.getElem_cons_zero])
      go_simp
      have hb : Below w9.heap.size w9 (w9.alloc (Obj.cells #[.int .i64 0, .int .i64 0, .int .i64 0] 49)) := below_alloc (Below.refl _ _) _
      have vb : (w9.alloc (Obj.cells #[.int .i64 0, .int .i64 0, .int .i64 0] 49)).heap[w9.heap.size]? = some (Obj.cells #[.int .i64 0, .int .i64 0, .int .i64 0] 49) := blk_new _ _
      generalize w9.alloc (Obj.cells #[.int .i64 0, .int .i64 0, .int .i64 0] 49) = wv at hb vb ⊢
      have mb2 := blk_below mb hb
      clear hlk
      have hlk := look t.f0 wv _ mb2
      clear mb2
      refine hK.out _ _ ?_ (fun hHeld => ?_)
      · (try dsimp only); exact keep5 hHeld hb
      clear hK K
      (try simp only [Act.put, List.getElem_toArray, List.getElem_cons_succ, List.getElem_cons_zero, List.setIfInBounds_toArray, List.set_cons_zero, List.set_cons_succ])
      refine wpAnyH_ready (rs := [3]) (by kernel_rfl) (by simp) ?_
      refine AllReadyH.cons rfl (fun K hK => ?_) (AllReadyH.nil)
      (try simp only [List.getElem_toArray, List.getElem_cons_succ, List.getElem_cons_zero])
      go_simp
      refine hK.out _ _ ?_ (fun hHeld => ?_)
      · (try dsimp only); exact hHeld
      clear hK K
      (try simp only [Act.put, List.getElem_toArray, List.getElem_cons_succ, List.getElem_cons_zero, List.setIfInBounds_toArray, List.set_cons_zero, List.set_cons_succ])
      refine wpAnyH_take (i := 4) (v := ?_) rfl (by kernel_rfl) (by kernel_rfl) (by kernel_rfl) (fun _ _ _ h => h) (Or.inl ⟨by rfl, ?_⟩) (by assumption) ?_
      rotate_left 1
      · (intro w hSw; (try dsimp only at hSw); (try simp only [List.getElem_toArray, List.getElem_cons_succ, List.getElem_cons_zero]); go_simp; (try with_reducible rfl))
      (try simp only [Act.put, List.getElem_toArray, List.getElem_cons_succ, List.getElem_cons_zero, List.setIfInBounds_toArray, List.set_cons_zero, List.set_cons_succ])
      refine wpAnyH_take (i := 5) (v := ?_) rfl (by kernel_rfl) (by kernel_rfl) (by kernel_rfl) (fun _ _ _ h => h) (Or.inl ⟨by rfl, ?_⟩) (by assumption) ?_
      rotate_left 1
      · (intro w hSw; (try dsimp only at hSw); (try simp only [List.getElem_toArray, List.getElem_cons_succ, List.getElem_cons_zero]); go_simp; (try with_reducible rfl))
      (try simp only [Act.put, List.getElem_toArray, List.getElem_cons_succ, List.getElem_cons_zero, List.setIfInBounds_toArray, List.set_cons_zero, List.set_cons_succ])
      refine wpAnyH_take (i := 6) (v := ?_) rfl (by kernel_rfl) (by kernel_rfl) (by kernel_rfl) (fun _ _ _ h => h) (Or.inl ⟨by rfl, ?_⟩) (by assumption) ?_
      rotate_left 1
      · (intro w hSw; (try dsimp only at hSw); (try simp only [List.getElem_toArray, List.getElem_cons_succ, List.getElem_cons_zero]); go_simp; (try with_reducible rfl))
      (try simp only [Act.put, List.getElem_toArray, List.getElem_cons_succ, List.getElem_cons_zero, List.setIfInBounds_toArray, List.set_cons_zero, List.set_cons_succ])
      have v0 := blk_cell vb 0; have v1 := blk_cell vb 1; have v2 := blk_cell vb 2
      simp only [List.getElem?_toArray, List.getElem?_cons_zero, List.getElem?_cons_succ] at v0 v1 v2
      have z0 := blk_frozen vb 0; have z1 := blk_frozen vb 1; have z2 := blk_frozen vb 2
      have hge : wq.heap.size ≤ w9.heap.size := Nat.le_of_lt (blk_lt mb)
      refine wpAnyH_ready (rs := [8]) (by kernel_rfl) (by simp) ?_
      refine AllReadyH.cons rfl (fun K hK => ?_) (AllReadyH.nil)
      (try simp only [List.getElem_toArray, List.getElem_cons_succ, List.getElem_cons_zero])
      go_simp
      have vb2 : (((wv.setCell ⟨w9.heap.size, 0, none⟩ (.int .i64 (what t.f0))).setCell ⟨w9.heap.size, 1, none⟩ (.int .i64 (least t.f0))).setCell ⟨w9.heap.size, 2, none⟩ (.int .i64 (most t.f0))).heap[w9.heap.size]? = some (Obj.cells #[.int .i64 (what t.f0), .int .i64 (least t.f0), .int .i64 (most t.f0)] 49) := blk_put (blk_put (blk_put vb 0 (.int .i64 (what t.f0)) rfl) 1 (.int .i64 (least t.f0)) rfl) 2 (.int .i64 (most t.f0)) rfl
      have hbs : Below wq.heap.size wq (((wv.setCell ⟨w9.heap.size, 0, none⟩ (.int .i64 (what t.f0))).setCell ⟨w9.heap.size, 1, none⟩ (.int .i64 (least t.f0))).setCell ⟨w9.heap.size, 2, none⟩ (.int .i64 (most t.f0))) := below_set (below_set (below_set hHeld.2.2.2.2.2 hge) hge) hge
      generalize (((wv.setCell ⟨w9.heap.size, 0, none⟩ (.int .i64 (what t.f0))).setCell ⟨w9.heap.size, 1, none⟩ (.int .i64 (least t.f0))).setCell ⟨w9.heap.size, 2, none⟩ (.int .i64 (most t.f0))) = ws at vb2 hbs ⊢
      refine hK.out _ _ ?_ (fun hHeld => ?_)
      · (try dsimp only); exact keep5 ⟨t0, t1, t2, t3, t4, Below.refl _ _⟩ hbs
      clear hK K
      (try simp only [Act.put, List.getElem_toArray, List.getElem_cons_succ, List.getElem_cons_zero, List.setIfInBounds_toArray, List.set_cons_zero, List.set_cons_succ])
      refine wpAnyH_take (i := 9) (v := ?_) rfl (by kernel_rfl) (by kernel_rfl) (by kernel_rfl) (fun _ _ _ h => h) (Or.inl ⟨by rfl, ?_⟩) (by assumption) ?_
      rotate_left 1
      · (intro w hSw; (try dsimp only at hSw); (try simp only [List.getElem_toArray, List.getElem_cons_succ, List.getElem_cons_zero]); go_simp; (try with_reducible rfl))
      (try simp only [Act.put, List.getElem_toArray, List.getElem_cons_succ, List.getElem_cons_zero, List.setIfInBounds_toArray, List.set_cons_zero, List.set_cons_succ])
      refine wpAnyH_done (by kernel_rfl) ?_ _
      have Bs := Lib.hid vb2
      have n0_ := Lib.hid (below_step HB.out hbs); have n1_ := Lib.hid (Kd.C_below Ct.out hbs); have n2_ := Lib.hid (blk_below Bt.out hbs)
      clear HB Ct Bt vb vb2 hbs hHeld v0 v1 v2 z0 z1 z2 hlk mb t0 t1 t2 t3 t4 hge
      have HB := n0_; have Ct := n1_; have Bt := n2_
      clear n0_ n1_ n2_
      generalize w9.heap.size = gb at Bs ⊢
      have t0 := blk_cell Bt.out 0; have t1 := blk_cell Bt.out 1; have t2 := blk_cell Bt.out 2; have t3 := blk_cell Bt.out 3; have t4 := blk_cell Bt.out 4
      simp only [List.getElem?_toArray, List.getElem?_cons_zero, List.getElem?_cons_succ] at t0 t1 t2 t3 t4
      have s0 := blk_cell Bs.out 0; have s1 := blk_cell Bs.out 1; have s2 := blk_cell Bs.out 2
      simp only [List.getElem?_toArray, List.getElem?_cons_zero, List.getElem?_cons_succ] at s0 s1 s2
      have MI := Lib.hid (may_is t)
      generalize hwh : what t.f0 = wh at *
      generalize hle : least t.f0 = le at *
      generalize hmo : most t.f0 = mo at *
      generalize hkn : known t.f0 = kn at *
      clear hwh hle hmo hkn
      cases kn with
      | false =>
        have HR : Hid (may t = false) := Lib.hid (by rw [MI.out]; simp)
        go_wp2_with fail
        go_ret
        exact ⟨by rw [HR.out]; rfl, HB.out⟩
      | true =>
        rcases Classical.em ((t.f4.length : Int) < le) with q | q
        · have QN := Lib.hid q
          have bl : decide ((t.f4.length : Int) < le) = true := decide_eq_true q
          clear q
          have HR : Hid (may t = false) := Lib.hid (by rw [MI.out]; rw [decide_eq_false (show ¬ le ≤ (t.f4.length : Int) by have := QN.out; omega)]; simp)
          go_wp2_with fail
          go_ret
          exact ⟨by rw [HR.out]; rfl, HB.out⟩
        · have QN := Lib.hid q
          have bl : decide ((t.f4.length : Int) < le) = false := decide_eq_false q
          clear q
          have QL : Hid (le ≤ (t.f4.length : Int)) := Lib.hid (by have := QN.out; omega)
          clear QN
          rcases Classical.em ((t.f4.length : Int) > mo) with q | q
          · have QN := Lib.hid q
            have bm : decide ((t.f4.length : Int) > mo) = true := decide_eq_true q
            have bm2 : decide (mo < (t.f4.length : Int)) = true := decide_eq_true q
            clear q
            have HR : Hid (may t = false) := Lib.hid (by rw [MI.out]; rw [decide_eq_false (show ¬ (t.f4.length : Int) ≤ mo by have := QN.out; omega)]; simp)
            go_wp2_with fail
            go_ret
            exact ⟨by rw [HR.out]; rfl, HB.out⟩
          · have QN := Lib.hid q
            have bm : decide ((t.f4.length : Int) > mo) = false := decide_eq_false q
            have bm2 : decide (mo < (t.f4.length : Int)) = false := decide_eq_false q
            clear q
            have QM : Hid ((t.f4.length : Int) ≤ mo) := Lib.hid (by have := QN.out; omega)
            clear QN
            obtain ⟨nb, VN⟩ : ∃ q, Hid (named t.f1 wh = q) := ⟨_, Lib.hid rfl⟩
            go_wp2_with fail
            refine ((TreeNm.named_any t.f1 wh hs _ (HT.out.on HB.out).here).mono fun e w' h => (⟨h.1.trans (by rw [VN.out]), h.2⟩ : e = .returned (.bool nb) ∧ _)).mono ?_
            rintro e w5 ⟨rfl, hb⟩
            have n0_ := Lib.hid (below_step HB.out hb); have n1_ := Lib.hid (Kd.C_below Ct.out hb); have n2_ := Lib.hid (blk_below Bt.out hb); have n3_ := Lib.hid (blk_below Bs.out hb)
            clear HB Ct Bt Bs hb t0 t1 t2 t3 t4 s0 s1 s2
            have HB := n0_; have Ct := n1_; have Bt := n2_; have Bs := n3_
            clear n0_ n1_ n2_ n3_
            have t0 := blk_cell Bt.out 0; have t1 := blk_cell Bt.out 1; have t2 := blk_cell Bt.out 2; have t3 := blk_cell Bt.out 3; have t4 := blk_cell Bt.out 4
            simp only [List.getElem?_toArray, List.getElem?_cons_zero, List.getElem?_cons_succ] at t0 t1 t2 t3 t4
            have s0 := blk_cell Bs.out 0; have s1 := blk_cell Bs.out 1; have s2 := blk_cell Bs.out 2
            simp only [List.getElem?_toArray, List.getElem?_cons_zero, List.getElem?_cons_succ] at s0 s1 s2
            cases nb with
            | false =>
              have HR : Hid (may t = false) := Lib.hid (by rw [MI.out]; rw [VN.out]; simp)
              go_wp2_with fail
              go_ret
              exact ⟨by rw [HR.out]; rfl, HB.out⟩
            | true =>
              obtain ⟨ub, VU⟩ : ∃ q, Hid (number t.f0 t.f2 t.f4.length = q) := ⟨_, Lib.hid rfl⟩
              have hnum := TreeNm.number_is t.f0 t.f1 t.f2 t.f3 t.f4 hl9
              rw [VU.out] at hnum
              have NU := Lib.hid hnum
              clear hnum
              go_wp2_with fail
              refine (tree_number.calls t.f0 t.f1 t.f2 t.f3 _ _ t.f4 _ _ Ct.out hl NU.out).mono ?_
              rintro e w5 ⟨rfl, hb⟩
              have n0_ := Lib.hid (below_step HB.out hb); have n1_ := Lib.hid (Kd.C_below Ct.out hb); have n2_ := Lib.hid (blk_below Bt.out hb); have n3_ := Lib.hid (blk_below Bs.out hb)
              clear HB Ct Bt Bs hb t0 t1 t2 t3 t4 s0 s1 s2
              have HB := n0_; have Ct := n1_; have Bt := n2_; have Bs := n3_
              clear n0_ n1_ n2_ n3_
              have t0 := blk_cell Bt.out 0; have t1 := blk_cell Bt.out 1; have t2 := blk_cell Bt.out 2; have t3 := blk_cell Bt.out 3; have t4 := blk_cell Bt.out 4
              simp only [List.getElem?_toArray, List.getElem?_cons_zero, List.getElem?_cons_succ] at t0 t1 t2 t3 t4
              have s0 := blk_cell Bs.out 0; have s1 := blk_cell Bs.out 1; have s2 := blk_cell Bs.out 2
              simp only [List.getElem?_toArray, List.getElem?_cons_zero, List.getElem?_cons_succ] at s0 s1 s2
              clear NU
              cases ub with
              | false =>
                have HR : Hid (may t = false) := Lib.hid (by rw [MI.out]; rw [VU.out]; simp)
                go_wp2_with fail
                go_ret
                exact ⟨by rw [HR.out]; rfl, HB.out⟩
              | true =>
                rcases Classical.em (t.f3 < 0) with q | q
                · have QN := Lib.hid q
                  have ba : decide (t.f3 < 0) = true := decide_eq_true q
                  clear q
                  have HR : Hid (may t = false) := Lib.hid (by rw [MI.out]; rw [decide_eq_false (show ¬ (0 : Int) ≤ t.f3 by have := QN.out; omega)]; simp)
                  go_wp2_with fail
                  go_ret
                  exact ⟨by rw [HR.out]; rfl, HB.out⟩
                · have QN := Lib.hid q
                  have ba : decide (t.f3 < 0) = false := decide_eq_false q
                  clear q
                  have QA : Hid ((0 : Int) ≤ t.f3) := Lib.hid (by have := QN.out; omega)
                  clear QN
                  have MP : Hid (may t = parts t.f0 t.f2 t.f4 0) := Lib.hid (by rw [MI.out, VN.out, VU.out, decide_eq_true QL.out, decide_eq_true QM.out, decide_eq_true QA.out]; simp)
                  go_wp2_with fail
                  go_loopw [52] (fun i wr => ∃ k : Nat, k ≤ t.f4.length ∧ i = .int .i64 k ∧ Hid (may t = parts t.f0 t.f2 (t.f4.drop k) (k : Int)) ∧ Hid (Below w5.heap.size w5 wr)) (fun i _ => t.f4.length - (intOf i).toNat)
                  case atStart => exact ⟨0, Nat.zero_le _, rfl, Lib.hid (by rw [MP.out]; rfl), Lib.hid (Below.refl _ _)⟩
                  case round =>
                    obtain ⟨k, hk, rfl, HP, HBR⟩ := hrel
                    have hb := HBR.out
                    have n0_ := Lib.hid (below_step HB.out hb); have n1_ := Lib.hid (Kd.C_below Ct.out hb); have n2_ := Lib.hid (blk_below Bt.out hb); have n3_ := Lib.hid (blk_below Bs.out hb)
                    clear HB Ct Bt Bs hb t0 t1 t2 t3 t4 s0 s1 s2
                    have HB := n0_; have Ct := n1_; have Bt := n2_; have Bs := n3_
                    clear n0_ n1_ n2_ n3_
                    have t0 := blk_cell Bt.out 0; have t1 := blk_cell Bt.out 1; have t2 := blk_cell Bt.out 2; have t3 := blk_cell Bt.out 3; have t4 := blk_cell Bt.out 4
                    simp only [List.getElem?_toArray, List.getElem?_cons_zero, List.getElem?_cons_succ] at t0 t1 t2 t3 t4
                    have s0 := blk_cell Bs.out 0; have s1 := blk_cell Bs.out 1; have s2 := blk_cell Bs.out 2
                    simp only [List.getElem?_toArray, List.getElem?_cons_zero, List.getElem?_cons_succ] at s0 s1 s2
                    by_cases hlt : k < t.f4.length
                    · obtain ⟨pb, VP⟩ : ∃ q, Hid (HTree.part t.f0 t.f2 t.f4[k] (k : Int) = q) := ⟨_, Lib.hid rfl⟩
                      have hdr : may t = (HTree.part t.f0 t.f2 t.f4[k] (k : Int) && parts t.f0 t.f2 (t.f4.drop (k + 1)) ((k : Int) + 1)) := by rw [HP.out, List.drop_eq_getElem_cons hlt, parts_cons]
                      rw [VP.out] at hdr
                      have HD := Lib.hid hdr
                      have HM := Lib.hid (HH.out _ (List.getElem_mem hlt))
                      clear hdr
                      go_wp2_with fail
                      refine ((part_any t k hlt hl9 HM.out _ _ _ Ct.out hl (HT.out.on HB.out).here).mono fun e w' h => (⟨h.1.trans (by rw [VP.out]), h.2⟩ : e = .returned (.bool pb) ∧ _)).mono ?_
                      rintro e w6 ⟨rfl, hb⟩
                      have HBR7 := Lib.hid (below_step HBR.out hb); have HB7 := Lib.hid (below_step HB.out hb)
                      clear hb
                      cases pb with
                      | true =>
                        go_wp2_with fail
                        exact ⟨⟨k + 1, by omega, by first | rfl | go_num, Lib.hid (by rw [HD.out, Bool.true_and]; norm_cast), HBR7⟩, by simp [intOf]; omega⟩
                      | false =>
                        have HR : Hid (may t = false) := Lib.hid (by rw [HD.out, Bool.false_and])
                        go_wp2_with fail
                        go_ret
                        exact ⟨by rw [HR.out]; rfl, HB7.out⟩
                    · have HR : Hid (may t = true) := Lib.hid (by rw [HP.out, List.drop_eq_nil_of_le (by omega)]; rfl)
                      go_wp2_with fail
                      go_ret
                      exact ⟨by rw [HR.out]; rfl, HB.out⟩
  · (try simp only [List.getElem_toArray, List.getElem_cons_succ, List.getElem_cons_zero])
    go_simp
    have hb : Below wq.drew.heap.size wq.drew ((wq.alloc (Obj.cells #[.int .i64 0, .int .i64 0, .int .i64 0] 49)).drew) := below_alloc (Below.refl _ _) _
    have vb : ((wq.alloc (Obj.cells #[.int .i64 0, .int .i64 0, .int .i64 0] 49)).drew).heap[wq.heap.size]? = some (Obj.cells #[.int .i64 0, .int .i64 0, .int .i64 0] 49) := blk_new _ _
    generalize (wq.alloc (Obj.cells #[.int .i64 0, .int .i64 0, .int .i64 0] 49)).drew = wa at hb vb ⊢
    refine hK.out _ _ ?_ (fun hHeld => ?_)
    · (try dsimp only); exact keep5 hHeld hb
    clear hK K
    (try simp only [Act.put, List.getElem_toArray, List.getElem_cons_succ, List.getElem_cons_zero, List.setIfInBounds_toArray, List.set_cons_zero, List.set_cons_succ])
    refine wpAnyH_ready (rs := [0]) (by kernel_rfl) (by simp) ?_
    refine AllReadyH.cons rfl (fun K hK => ?_) (AllReadyH.nil)
    (try simp only [List.getElem_toArray, List.getElem_cons_succ, List.getElem_cons_zero])
    go_simp
    refine (TreeMap.shapes_any _).mono ?_
    rintro e w9 ⟨rfl, h9⟩
    have mb : w9.heap[wa.heap.size]? = some (Obj.map (TreeMap.ents 10) 10) := by rw [h9]; exact blk_new _ _
    have hb : Below wa.heap.size wa w9 := by rw [h9]; exact below_alloc (Below.refl _ _) _
    clear h9
    have vb2 := blk_below vb hb
    clear vb
    have vb := vb2
    clear vb2
    simp only []
    refine hK.out _ _ ?_ (fun hHeld => ?_)
    · (try dsimp only); exact keep5 hHeld hb
    clear hK K
    (try simp only [Act.put, List.getElem_toArray, List.getElem_cons_succ, List.getElem_cons_zero, List.setIfInBounds_toArray, List.set_cons_zero, List.set_cons_succ])
    have hlk := look t.f0 w9 _ mb
    refine wpAnyH_ready (rs := [3]) (by kernel_rfl) (by simp) ?_
    refine AllReadyH.cons rfl (fun K hK => ?_) (AllReadyH.nil)
    (try simp only [List.getElem_toArray, List.getElem_cons_succ, List.getElem_cons_zero])
    go_simp
    refine hK.out _ _ ?_ (fun hHeld => ?_)
    · (try dsimp only); exact hHeld
    clear hK K
    (try simp only [Act.put, List.getElem_toArray, List.getElem_cons_succ, List.getElem_cons_zero, List.setIfInBounds_toArray, List.set_cons_zero, List.set_cons_succ])
    refine wpAnyH_take (i := 4) (v := ?_) rfl (by kernel_rfl) (by kernel_rfl) (by kernel_rfl) (fun _ _ _ h => h) (Or.inl ⟨by rfl, ?_⟩) (by assumption) ?_
    rotate_left 1
    · (intro w hSw; (try dsimp only at hSw); (try simp only [List.getElem_toArray, List.getElem_cons_succ, List.getElem_cons_zero]); go_simp; (try with_reducible rfl))
    (try simp only [Act.put, List.getElem_toArray, List.getElem_cons_succ, List.getElem_cons_zero, List.setIfInBounds_toArray, List.set_cons_zero, List.set_cons_succ])
    refine wpAnyH_take (i := 5) (v := ?_) rfl (by kernel_rfl) (by kernel_rfl) (by kernel_rfl) (fun _ _ _ h => h) (Or.inl ⟨by rfl, ?_⟩) (by assumption) ?_
    rotate_left 1
    · (intro w hSw; (try dsimp only at hSw); (try simp only [List.getElem_toArray, List.getElem_cons_succ, List.getElem_cons_zero]); go_simp; (try with_reducible rfl))
    (try simp only [Act.put, List.getElem_toArray, List.getElem_cons_succ, List.getElem_cons_zero, List.setIfInBounds_toArray, List.set_cons_zero, List.set_cons_succ])
    refine wpAnyH_take (i := 6) (v := ?_) rfl (by kernel_rfl) (by kernel_rfl) (by kernel_rfl) (fun _ _ _ h => h) (Or.inl ⟨by rfl, ?_⟩) (by assumption) ?_
    rotate_left 1
    · (intro w hSw; (try dsimp only at hSw); (try simp only [List.getElem_toArray, List.getElem_cons_succ, List.getElem_cons_zero]); go_simp; (try with_reducible rfl))
    (try simp only [Act.put, List.getElem_toArray, List.getElem_cons_succ, List.getElem_cons_zero, List.setIfInBounds_toArray, List.set_cons_zero, List.set_cons_succ])
    have v0 := blk_cell vb 0; have v1 := blk_cell vb 1; have v2 := blk_cell vb 2
    simp only [List.getElem?_toArray, List.getElem?_cons_zero, List.getElem?_cons_succ] at v0 v1 v2
    have z0 := blk_frozen vb 0; have z1 := blk_frozen vb 1; have z2 := blk_frozen vb 2
    have hge : wq.heap.size ≤ wq.heap.size := Nat.le_refl _
    refine wpAnyH_ready (rs := [8]) (by kernel_rfl) (by simp) ?_
    refine AllReadyH.cons rfl (fun K hK => ?_) (AllReadyH.nil)
    (try simp only [List.getElem_toArray, List.getElem_cons_succ, List.getElem_cons_zero])
    go_simp
    have vb2 : (((w9.setCell ⟨wq.heap.size, 0, none⟩ (.int .i64 (what t.f0))).setCell ⟨wq.heap.size, 1, none⟩ (.int .i64 (least t.f0))).setCell ⟨wq.heap.size, 2, none⟩ (.int .i64 (most t.f0))).heap[wq.heap.size]? = some (Obj.cells #[.int .i64 (what t.f0), .int .i64 (least t.f0), .int .i64 (most t.f0)] 49) := blk_put (blk_put (blk_put vb 0 (.int .i64 (what t.f0)) rfl) 1 (.int .i64 (least t.f0)) rfl) 2 (.int .i64 (most t.f0)) rfl
    have hbs : Below wq.heap.size wq (((w9.setCell ⟨wq.heap.size, 0, none⟩ (.int .i64 (what t.f0))).setCell ⟨wq.heap.size, 1, none⟩ (.int .i64 (least t.f0))).setCell ⟨wq.heap.size, 2, none⟩ (.int .i64 (most t.f0))) := below_set (below_set (below_set hHeld.2.2.2.2.2 hge) hge) hge
    generalize (((w9.setCell ⟨wq.heap.size, 0, none⟩ (.int .i64 (what t.f0))).setCell ⟨wq.heap.size, 1, none⟩ (.int .i64 (least t.f0))).setCell ⟨wq.heap.size, 2, none⟩ (.int .i64 (most t.f0))) = ws at vb2 hbs ⊢
    refine hK.out _ _ ?_ (fun hHeld => ?_)
    · (try dsimp only); exact keep5 ⟨t0, t1, t2, t3, t4, Below.refl _ _⟩ hbs
    clear hK K
    (try simp only [Act.put, List.getElem_toArray, List.getElem_cons_succ, List.getElem_cons_zero, List.setIfInBounds_toArray, List.set_cons_zero, List.set_cons_succ])
    refine wpAnyH_take (i := 9) (v := ?_) rfl (by kernel_rfl) (by kernel_rfl) (by kernel_rfl) (fun _ _ _ h => h) (Or.inl ⟨by rfl, ?_⟩) (by assumption) ?_
    rotate_left 1
    · (intro w hSw; (try dsimp only at hSw); (try simp only [List.getElem_toArray, List.getElem_cons_succ, List.getElem_cons_zero]); go_simp; (try with_reducible rfl))
    (try simp only [Act.put, List.getElem_toArray, List.getElem_cons_succ, List.getElem_cons_zero, List.setIfInBounds_toArray, List.set_cons_zero, List.set_cons_succ])
    refine wpAnyH_done (by kernel_rfl) ?_ _
    have Bs := Lib.hid vb2
    have n0_ := Lib.hid (below_step HB.out hbs); have n1_ := Lib.hid (Kd.C_below Ct.out hbs); have n2_ := Lib.hid (blk_below Bt.out hbs)
    clear HB Ct Bt vb vb2 hbs hHeld v0 v1 v2 z0 z1 z2 hlk mb t0 t1 t2 t3 t4 hge
    have HB := n0_; have Ct := n1_; have Bt := n2_
    clear n0_ n1_ n2_
    generalize wq.heap.size = gb at Bs ⊢
    have t0 := blk_cell Bt.out 0; have t1 := blk_cell Bt.out 1; have t2 := blk_cell Bt.out 2; have t3 := blk_cell Bt.out 3; have t4 := blk_cell Bt.out 4
    simp only [List.getElem?_toArray, List.getElem?_cons_zero, List.getElem?_cons_succ] at t0 t1 t2 t3 t4
    have s0 := blk_cell Bs.out 0; have s1 := blk_cell Bs.out 1; have s2 := blk_cell Bs.out 2
    simp only [List.getElem?_toArray, List.getElem?_cons_zero, List.getElem?_cons_succ] at s0 s1 s2
    have MI := Lib.hid (may_is t)
    generalize hwh : what t.f0 = wh at *
    generalize hle : least t.f0 = le at *
    generalize hmo : most t.f0 = mo at *
    generalize hkn : known t.f0 = kn at *
    clear hwh hle hmo hkn
    cases kn with
    | false =>
      have HR : Hid (may t = false) := Lib.hid (by rw [MI.out]; simp)
      go_wp2_with fail
      go_ret
      exact ⟨by rw [HR.out]; rfl, HB.out⟩
    | true =>
      rcases Classical.em ((t.f4.length : Int) < le) with q | q
      · have QN := Lib.hid q
        have bl : decide ((t.f4.length : Int) < le) = true := decide_eq_true q
        clear q
        have HR : Hid (may t = false) := Lib.hid (by rw [MI.out]; rw [decide_eq_false (show ¬ le ≤ (t.f4.length : Int) by have := QN.out; omega)]; simp)
        go_wp2_with fail
        go_ret
        exact ⟨by rw [HR.out]; rfl, HB.out⟩
      · have QN := Lib.hid q
        have bl : decide ((t.f4.length : Int) < le) = false := decide_eq_false q
        clear q
        have QL : Hid (le ≤ (t.f4.length : Int)) := Lib.hid (by have := QN.out; omega)
        clear QN
        rcases Classical.em ((t.f4.length : Int) > mo) with q | q
        · have QN := Lib.hid q
          have bm : decide ((t.f4.length : Int) > mo) = true := decide_eq_true q
          have bm2 : decide (mo < (t.f4.length : Int)) = true := decide_eq_true q
          clear q
          have HR : Hid (may t = false) := Lib.hid (by rw [MI.out]; rw [decide_eq_false (show ¬ (t.f4.length : Int) ≤ mo by have := QN.out; omega)]; simp)
          go_wp2_with fail
          go_ret
          exact ⟨by rw [HR.out]; rfl, HB.out⟩
        · have QN := Lib.hid q
          have bm : decide ((t.f4.length : Int) > mo) = false := decide_eq_false q
          have bm2 : decide (mo < (t.f4.length : Int)) = false := decide_eq_false q
          clear q
          have QM : Hid ((t.f4.length : Int) ≤ mo) := Lib.hid (by have := QN.out; omega)
          clear QN
          obtain ⟨nb, VN⟩ : ∃ q, Hid (named t.f1 wh = q) := ⟨_, Lib.hid rfl⟩
          go_wp2_with fail
          refine ((TreeNm.named_any t.f1 wh hs _ (HT.out.on HB.out).here).mono fun e w' h => (⟨h.1.trans (by rw [VN.out]), h.2⟩ : e = .returned (.bool nb) ∧ _)).mono ?_
          rintro e w5 ⟨rfl, hb⟩
          have n0_ := Lib.hid (below_step HB.out hb); have n1_ := Lib.hid (Kd.C_below Ct.out hb); have n2_ := Lib.hid (blk_below Bt.out hb); have n3_ := Lib.hid (blk_below Bs.out hb)
          clear HB Ct Bt Bs hb t0 t1 t2 t3 t4 s0 s1 s2
          have HB := n0_; have Ct := n1_; have Bt := n2_; have Bs := n3_
          clear n0_ n1_ n2_ n3_
          have t0 := blk_cell Bt.out 0; have t1 := blk_cell Bt.out 1; have t2 := blk_cell Bt.out 2; have t3 := blk_cell Bt.out 3; have t4 := blk_cell Bt.out 4
          simp only [List.getElem?_toArray, List.getElem?_cons_zero, List.getElem?_cons_succ] at t0 t1 t2 t3 t4
          have s0 := blk_cell Bs.out 0; have s1 := blk_cell Bs.out 1; have s2 := blk_cell Bs.out 2
          simp only [List.getElem?_toArray, List.getElem?_cons_zero, List.getElem?_cons_succ] at s0 s1 s2
          cases nb with
          | false =>
            have HR : Hid (may t = false) := Lib.hid (by rw [MI.out]; rw [VN.out]; simp)
            go_wp2_with fail
            go_ret
            exact ⟨by rw [HR.out]; rfl, HB.out⟩
          | true =>
            obtain ⟨ub, VU⟩ : ∃ q, Hid (number t.f0 t.f2 t.f4.length = q) := ⟨_, Lib.hid rfl⟩
            have hnum := TreeNm.number_is t.f0 t.f1 t.f2 t.f3 t.f4 hl9
            rw [VU.out] at hnum
            have NU := Lib.hid hnum
            clear hnum
            go_wp2_with fail
            refine (tree_number.calls t.f0 t.f1 t.f2 t.f3 _ _ t.f4 _ _ Ct.out hl NU.out).mono ?_
            rintro e w5 ⟨rfl, hb⟩
            have n0_ := Lib.hid (below_step HB.out hb); have n1_ := Lib.hid (Kd.C_below Ct.out hb); have n2_ := Lib.hid (blk_below Bt.out hb); have n3_ := Lib.hid (blk_below Bs.out hb)
            clear HB Ct Bt Bs hb t0 t1 t2 t3 t4 s0 s1 s2
            have HB := n0_; have Ct := n1_; have Bt := n2_; have Bs := n3_
            clear n0_ n1_ n2_ n3_
            have t0 := blk_cell Bt.out 0; have t1 := blk_cell Bt.out 1; have t2 := blk_cell Bt.out 2; have t3 := blk_cell Bt.out 3; have t4 := blk_cell Bt.out 4
            simp only [List.getElem?_toArray, List.getElem?_cons_zero, List.getElem?_cons_succ] at t0 t1 t2 t3 t4
            have s0 := blk_cell Bs.out 0; have s1 := blk_cell Bs.out 1; have s2 := blk_cell Bs.out 2
            simp only [List.getElem?_toArray, List.getElem?_cons_zero, List.getElem?_cons_succ] at s0 s1 s2
            clear NU
            cases ub with
            | false =>
              have HR : Hid (may t = false) := Lib.hid (by rw [MI.out]; rw [VU.out]; simp)
              go_wp2_with fail
              go_ret
              exact ⟨by rw [HR.out]; rfl, HB.out⟩
            | true =>
              rcases Classical.em (t.f3 < 0) with q | q
              · have QN := Lib.hid q
                have ba : decide (t.f3 < 0) = true := decide_eq_true q
                clear q
                have HR : Hid (may t = false) := Lib.hid (by rw [MI.out]; rw [decide_eq_false (show ¬ (0 : Int) ≤ t.f3 by have := QN.out; omega)]; simp)
                go_wp2_with fail
                go_ret
                exact ⟨by rw [HR.out]; rfl, HB.out⟩
              · have QN := Lib.hid q
                have ba : decide (t.f3 < 0) = false := decide_eq_false q
                clear q
                have QA : Hid ((0 : Int) ≤ t.f3) := Lib.hid (by have := QN.out; omega)
                clear QN
                have MP : Hid (may t = parts t.f0 t.f2 t.f4 0) := Lib.hid (by rw [MI.out, VN.out, VU.out, decide_eq_true QL.out, decide_eq_true QM.out, decide_eq_true QA.out]; simp)
                go_wp2_with fail
                go_loopw [52] (fun i wr => ∃ k : Nat, k ≤ t.f4.length ∧ i = .int .i64 k ∧ Hid (may t = parts t.f0 t.f2 (t.f4.drop k) (k : Int)) ∧ Hid (Below w5.heap.size w5 wr)) (fun i _ => t.f4.length - (intOf i).toNat)
                case atStart => exact ⟨0, Nat.zero_le _, rfl, Lib.hid (by rw [MP.out]; rfl), Lib.hid (Below.refl _ _)⟩
                case round =>
                  obtain ⟨k, hk, rfl, HP, HBR⟩ := hrel
                  have hb := HBR.out
                  have n0_ := Lib.hid (below_step HB.out hb); have n1_ := Lib.hid (Kd.C_below Ct.out hb); have n2_ := Lib.hid (blk_below Bt.out hb); have n3_ := Lib.hid (blk_below Bs.out hb)
                  clear HB Ct Bt Bs hb t0 t1 t2 t3 t4 s0 s1 s2
                  have HB := n0_; have Ct := n1_; have Bt := n2_; have Bs := n3_
                  clear n0_ n1_ n2_ n3_
                  have t0 := blk_cell Bt.out 0; have t1 := blk_cell Bt.out 1; have t2 := blk_cell Bt.out 2; have t3 := blk_cell Bt.out 3; have t4 := blk_cell Bt.out 4
                  simp only [List.getElem?_toArray, List.getElem?_cons_zero, List.getElem?_cons_succ] at t0 t1 t2 t3 t4
                  have s0 := blk_cell Bs.out 0; have s1 := blk_cell Bs.out 1; have s2 := blk_cell Bs.out 2
                  simp only [List.getElem?_toArray, List.getElem?_cons_zero, List.getElem?_cons_succ] at s0 s1 s2
                  by_cases hlt : k < t.f4.length
                  · obtain ⟨pb, VP⟩ : ∃ q, Hid (HTree.part t.f0 t.f2 t.f4[k] (k : Int) = q) := ⟨_, Lib.hid rfl⟩
                    have hdr : may t = (HTree.part t.f0 t.f2 t.f4[k] (k : Int) && parts t.f0 t.f2 (t.f4.drop (k + 1)) ((k : Int) + 1)) := by rw [HP.out, List.drop_eq_getElem_cons hlt, parts_cons]
                    rw [VP.out] at hdr
                    have HD := Lib.hid hdr
                    have HM := Lib.hid (HH.out _ (List.getElem_mem hlt))
                    clear hdr
                    go_wp2_with fail
                    refine ((part_any t k hlt hl9 HM.out _ _ _ Ct.out hl (HT.out.on HB.out).here).mono fun e w' h => (⟨h.1.trans (by rw [VP.out]), h.2⟩ : e = .returned (.bool pb) ∧ _)).mono ?_
                    rintro e w6 ⟨rfl, hb⟩
                    have HBR7 := Lib.hid (below_step HBR.out hb); have HB7 := Lib.hid (below_step HB.out hb)
                    clear hb
                    cases pb with
                    | true =>
                      go_wp2_with fail
                      exact ⟨⟨k + 1, by omega, by first | rfl | go_num, Lib.hid (by rw [HD.out, Bool.true_and]; norm_cast), HBR7⟩, by simp [intOf]; omega⟩
                    | false =>
                      have HR : Hid (may t = false) := Lib.hid (by rw [HD.out, Bool.false_and])
                      go_wp2_with fail
                      go_ret
                      exact ⟨by rw [HR.out]; rfl, HB7.out⟩
                  · have HR : Hid (may t = true) := Lib.hid (by rw [HP.out, List.drop_eq_nil_of_le (by omega)]; rfl)
                    go_wp2_with fail
                    go_ret
                    exact ⟨by rw [HR.out]; rfl, HB.out⟩
end TreeMay
end Go.Proofs.YthdkjfhpbigdpaaDoor.Pure
