-- Written for this claim.
import Derived.Test.YthdkjfhpbigdpaaDoorQx5
import Derived.Test.YthdkjfhpbigdpaaDoorQx4
import Derived.Test.YthdkjfhpbigdpaaDoorQx22
import Derived.Test.YthdkjfhpbigdpaaDoorQx1
import Derived.Test.YthdkjfhpbigdpaaDoorPTreeMay3
import Derived.Deep.RegionWith
namespace Go.Proofs.YthdkjfhpbigdpaaDoor.Pure
open Go Go.RowKit Go.Lib Go.Proofs Go.Proofs.YthdkjfhpbigdpaaDoor.Q Go.Proofs.YthdkjfhpbigdpaaDoorW.PrintWords Go.Proofs.YthdkjfhpbigdpaaDoorW.PrintLast Go.Proofs.YthdkjfhpbigdpaaDoorW.PrintMore
open HTree
namespace TreeFix
set_option linter.unusedVariables false
set_option linter.unusedSimpArgs false
/-- A literal row of one tree. -/
theorem C1 {W : World} {x : T} {cs : List Value} (h : k24.K W x cs) : Kd.C k24 (W.alloc (.cells cs.toArray 24)) (some ⟨W.heap.size, 0, none⟩) 1 [x] := by
  have hb := below_alloc (Below.refl W.heap.size W) (.cells cs.toArray 24)
  have hn := blk_new W (.cells cs.toArray 24)
  refine ⟨rfl, by decide, fun _ => ⟨_, rfl, fun j p hj => ?_⟩⟩
  match j, hj with
  | 0, hj =>
    obtain rfl : x = p := by simpa using hj
    refine ⟨cs, k24.K_len h, k24.K_below hb h, fun i u hi => ?_⟩
    have := blk_cell hn i
    have e : (⟨W.heap.size, 0, none⟩ : Addr).add (0 * k24.sz + i) = ⟨W.heap.size, i, none⟩ := by rw [Nat.zero_mul, Nat.zero_add]; simp only [Addr.add]; split <;> simp_all
    rw [e, this]; simpa using hi
theorem C2 {W : World} {x y : T} {cs ds : List Value} (h : k24.K W x cs) (h2 : k24.K W y ds) : Kd.C k24 (W.alloc (.cells (cs ++ ds).toArray 24)) (some ⟨W.heap.size, 0, none⟩) 2 [x, y] := by
  have hb := below_alloc (Below.refl W.heap.size W) (.cells (cs ++ ds).toArray 24)
  have hn := blk_new W (.cells (cs ++ ds).toArray 24)
  have hl : cs.length = 5 := k24.K_len h
  refine ⟨rfl, by decide, fun _ => ⟨_, rfl, fun j p hj => ?_⟩⟩
  match j, hj with
  | 0, hj =>
    obtain rfl : x = p := by simpa using hj
    refine ⟨cs, k24.K_len h, k24.K_below hb h, fun i u hi => ?_⟩
    have := blk_cell hn i
    have e : (⟨W.heap.size, 0, none⟩ : Addr).add (0 * k24.sz + i) = ⟨W.heap.size, i, none⟩ := by rw [Nat.zero_mul, Nat.zero_add]; simp only [Addr.add]; split <;> simp_all
    have hlt := (List.getElem?_eq_some_iff.1 hi).1
    rw [e, this]; simpa [List.getElem?_append_left hlt] using hi
  | 1, hj =>
    obtain rfl : y = p := by simpa using hj
    refine ⟨ds, k24.K_len h2, k24.K_below hb h2, fun i u hi => ?_⟩
    have := blk_cell hn (5 + i)
    have e : (⟨W.heap.size, 0, none⟩ : Addr).add (1 * k24.sz + i) = ⟨W.heap.size, 5 + i, none⟩ := by rw [show 1 * k24.sz + i = 5 + i from rfl]; simp only [Addr.add]; split <;> simp_all
    rw [e, this]; simp [List.getElem?_append_right, hl, hi]
theorem C0 (W : World) : Kd.C k24 W none 0 [] := ⟨rfl, by decide, fun h => absurd h (by decide)⟩
theorem keep16 {p0 : Addr} {p1 : Addr} {p2 : Addr} {p3 : Addr} {p4 : Addr} {p5 : Addr} {p6 : Addr} {p7 : Addr} {p8 : Addr} {p9 : Addr} {p10 : Addr} {p11 : Addr} {p12 : Addr} {p13 : Addr} {p14 : Addr} {p15 : Addr} {v0 : Value} {v1 : Value} {v2 : Value} {v3 : Value} {v4 : Value} {v5 : Value} {v6 : Value} {v7 : Value} {v8 : Value} {v9 : Value} {v10 : Value} {v11 : Value} {v12 : Value} {v13 : Value} {v14 : Value} {v15 : Value} {wq w1 w2 : World}
    (h : w1.cell? p0 = some v0 ∧ w1.cell? p1 = some v1 ∧ w1.cell? p2 = some v2 ∧ w1.cell? p3 = some v3 ∧ w1.cell? p4 = some v4 ∧ w1.cell? p5 = some v5 ∧ w1.cell? p6 = some v6 ∧ w1.cell? p7 = some v7 ∧ w1.cell? p8 = some v8 ∧ w1.cell? p9 = some v9 ∧ w1.cell? p10 = some v10 ∧ w1.cell? p11 = some v11 ∧ w1.cell? p12 = some v12 ∧ w1.cell? p13 = some v13 ∧ w1.cell? p14 = some v14 ∧ w1.cell? p15 = some v15 ∧ Below wq.heap.size wq w1) (hb : Below w1.heap.size w1 w2) :
    w2.cell? p0 = some v0 ∧ w2.cell? p1 = some v1 ∧ w2.cell? p2 = some v2 ∧ w2.cell? p3 = some v3 ∧ w2.cell? p4 = some v4 ∧ w2.cell? p5 = some v5 ∧ w2.cell? p6 = some v6 ∧ w2.cell? p7 = some v7 ∧ w2.cell? p8 = some v8 ∧ w2.cell? p9 = some v9 ∧ w2.cell? p10 = some v10 ∧ w2.cell? p11 = some v11 ∧ w2.cell? p12 = some v12 ∧ w2.cell? p13 = some v13 ∧ w2.cell? p14 = some v14 ∧ w2.cell? p15 = some v15 ∧ Below wq.heap.size wq w2 := by
  obtain ⟨h0, h1, h2, h3, h4, h5, h6, h7, h8, h9, h10, h11, h12, h13, h14, h15, h16⟩ := h
  exact ⟨(hb.cell (World.block_lt_of_cell? _ _ h0)).trans h0, (hb.cell (World.block_lt_of_cell? _ _ h1)).trans h1, (hb.cell (World.block_lt_of_cell? _ _ h2)).trans h2, (hb.cell (World.block_lt_of_cell? _ _ h3)).trans h3, (hb.cell (World.block_lt_of_cell? _ _ h4)).trans h4, (hb.cell (World.block_lt_of_cell? _ _ h5)).trans h5, (hb.cell (World.block_lt_of_cell? _ _ h6)).trans h6, (hb.cell (World.block_lt_of_cell? _ _ h7)).trans h7, (hb.cell (World.block_lt_of_cell? _ _ h8)).trans h8, (hb.cell (World.block_lt_of_cell? _ _ h9)).trans h9, (hb.cell (World.block_lt_of_cell? _ _ h10)).trans h10, (hb.cell (World.block_lt_of_cell? _ _ h11)).trans h11, (hb.cell (World.block_lt_of_cell? _ _ h12)).trans h12, (hb.cell (World.block_lt_of_cell? _ _ h13)).trans h13, (hb.cell (World.block_lt_of_cell? _ _ h14)).trans h14, (hb.cell (World.block_lt_of_cell? _ _ h15)).trans h15, below_step h16 hb⟩
theorem keep10 {p0 : Addr} {p1 : Addr} {p2 : Addr} {p3 : Addr} {p4 : Addr} {p5 : Addr} {p6 : Addr} {p7 : Addr} {p8 : Addr} {p9 : Addr} {v0 : Value} {v1 : Value} {v2 : Value} {v3 : Value} {v4 : Value} {v5 : Value} {v6 : Value} {v7 : Value} {v8 : Value} {v9 : Value} {wq w1 w2 : World}
    (h : w1.cell? p0 = some v0 ∧ w1.cell? p1 = some v1 ∧ w1.cell? p2 = some v2 ∧ w1.cell? p3 = some v3 ∧ w1.cell? p4 = some v4 ∧ w1.cell? p5 = some v5 ∧ w1.cell? p6 = some v6 ∧ w1.cell? p7 = some v7 ∧ w1.cell? p8 = some v8 ∧ w1.cell? p9 = some v9 ∧ Below wq.heap.size wq w1) (hb : Below w1.heap.size w1 w2) :
    w2.cell? p0 = some v0 ∧ w2.cell? p1 = some v1 ∧ w2.cell? p2 = some v2 ∧ w2.cell? p3 = some v3 ∧ w2.cell? p4 = some v4 ∧ w2.cell? p5 = some v5 ∧ w2.cell? p6 = some v6 ∧ w2.cell? p7 = some v7 ∧ w2.cell? p8 = some v8 ∧ w2.cell? p9 = some v9 ∧ Below wq.heap.size wq w2 := by
  obtain ⟨h0, h1, h2, h3, h4, h5, h6, h7, h8, h9, h10⟩ := h
  exact ⟨(hb.cell (World.block_lt_of_cell? _ _ h0)).trans h0, (hb.cell (World.block_lt_of_cell? _ _ h1)).trans h1, (hb.cell (World.block_lt_of_cell? _ _ h2)).trans h2, (hb.cell (World.block_lt_of_cell? _ _ h3)).trans h3, (hb.cell (World.block_lt_of_cell? _ _ h4)).trans h4, (hb.cell (World.block_lt_of_cell? _ _ h5)).trans h5, (hb.cell (World.block_lt_of_cell? _ _ h6)).trans h6, (hb.cell (World.block_lt_of_cell? _ _ h7)).trans h7, (hb.cell (World.block_lt_of_cell? _ _ h8)).trans h8, (hb.cell (World.block_lt_of_cell? _ _ h9)).trans h9, below_step h10 hb⟩
end TreeFix
end Go.Proofs.YthdkjfhpbigdpaaDoor.Pure
