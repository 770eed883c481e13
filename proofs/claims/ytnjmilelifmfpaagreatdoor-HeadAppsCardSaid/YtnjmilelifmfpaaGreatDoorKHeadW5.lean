-- Written for this claim: several texts in one.
import Derived.Test.YtnjmilelifmfpaaGreatDoorKHeadW2
import Derived.OrdersHeld
import Derived.Test.YtnjmilelifmfpaaGreatDoorKHeadW4
import Derived.Lib.SliceRun
import Derived.Deep.RegionWith
import Derived.Lib.Hide
import Derived.Deep.DeepCutAuto
import Derived.Deep.CutBlock
import Derived.Laws.NewBlocks
import Derived.Laws.Slices
import Derived.Laws.Pointers
import Derived.Laws.Rows
import Derived.Tactics2
import Derived.Test.YtnjmilelifmfpaaGreatDoorKHeadW3
import Derived.KernelRfl
import Derived.Test.YtnjmilelifmfpaaGreatDoorKHeadW1
set_option linter.unusedSimpArgs false
set_option linter.unusedVariables false
namespace Go.Proofs.YtnjmilelifmfpaaGreatDoor.Pure
open Go Go.RowKit Go.Lib Go.Proofs Go.Proofs.YtnjmilelifmfpaaGreatDoor.Q Go.Proofs.YtnjmilelifmfpaaGreatDoorW.PrintWords Go.Proofs.YtnjmilelifmfpaaGreatDoorW.PrintLast Go.Proofs.YtnjmilelifmfpaaGreatDoorW.PrintMore
set_option linter.unusedVariables false
set_option linter.unusedSimpArgs false
namespace Z
theorem mB {n w : World} {W : World} (h : Hid (Below w.heap.size w W)) (k : Below W.heap.size W n) : Hid (Below w.heap.size w n) := Lib.hid (below_step h.out k)
theorem mK {w n : World} {g : Nat} {o : Obj} (h : Hid (w.heap[g]? = some o)) (k : Below w.heap.size w n) : Hid (n.heap[g]? = some o) := Lib.hid (blk_below h.out k)
theorem mF {α : Type} {d : Kd α} {w n : World} {ok : Nat → Prop} {A : Option Addr} {m : Nat} {xs : List α} (h : Hid (Kd.F d w ok A m xs)) (k : Below w.heap.size w n) : Hid (Kd.F d n ok A m xs) := Lib.hid (Kd.F_below h.out k)
theorem aw (w : World) (o : Obj) : ∃ n, w.alloc o = n ∧ Hid (n.heap[w.heap.size]? = some o) ∧ Below w.heap.size w n := ⟨_, rfl, Lib.hid (blk_new w o), below_alloc (Below.refl w.heap.size w) o⟩
section
variable {w : World} {g : Nat} {t : TypeId} {a b c d e f i j : Value}
theorem c1 (h : Hid (w.heap[g]? = some (.cells #[a] t (0, 0)))) : w.cell? ⟨g, 0, none⟩ = some a := blk_cell h.out 0
theorem c4 (h : Hid (w.heap[g]? = some (.cells #[a, b, c, d] t (0, 0)))) : w.cell? ⟨g, 0, none⟩ = some a ∧ w.cell? ⟨g, 1, none⟩ = some b ∧ w.cell? ⟨g, 2, none⟩ = some c ∧ w.cell? ⟨g, 3, none⟩ = some d := ⟨blk_cell h.out 0, blk_cell h.out 1, blk_cell h.out 2, blk_cell h.out 3⟩
theorem z4 (h : Hid (w.heap[g]? = some (.cells #[a, b, c, d] t (0, 0)))) : w.frozen? ⟨g, 0, none⟩ = false ∧ w.frozen? ⟨g, 1, none⟩ = false ∧ w.frozen? ⟨g, 2, none⟩ = false ∧ w.frozen? ⟨g, 3, none⟩ = false := ⟨blk_frozen h.out 0, blk_frozen h.out 1, blk_frozen h.out 2, blk_frozen h.out 3⟩
theorem c5 (h : Hid (w.heap[g]? = some (.cells #[a, b, c, d, e] t (0, 0)))) : w.cell? ⟨g, 0, none⟩ = some a ∧ w.cell? ⟨g, 1, none⟩ = some b ∧ w.cell? ⟨g, 2, none⟩ = some c ∧ w.cell? ⟨g, 3, none⟩ = some d ∧ w.cell? ⟨g, 4, none⟩ = some e := ⟨blk_cell h.out 0, blk_cell h.out 1, blk_cell h.out 2, blk_cell h.out 3, blk_cell h.out 4⟩
theorem z5 (h : Hid (w.heap[g]? = some (.cells #[a, b, c, d, e] t (0, 0)))) : w.frozen? ⟨g, 0, none⟩ = false ∧ w.frozen? ⟨g, 1, none⟩ = false ∧ w.frozen? ⟨g, 2, none⟩ = false ∧ w.frozen? ⟨g, 3, none⟩ = false ∧ w.frozen? ⟨g, 4, none⟩ = false := ⟨blk_frozen h.out 0, blk_frozen h.out 1, blk_frozen h.out 2, blk_frozen h.out 3, blk_frozen h.out 4⟩
theorem c2 (h : Hid (w.heap[g]? = some (.cells #[a, b] t (0, 0)))) : w.cell? ⟨g, 0, none⟩ = some a ∧ w.cell? ⟨g, 1, none⟩ = some b := ⟨blk_cell h.out 0, blk_cell h.out 1⟩
theorem c3 (h : Hid (w.heap[g]? = some (.cells #[a, b, c] t (0, 0)))) : w.cell? ⟨g, 0, none⟩ = some a ∧ w.cell? ⟨g, 1, none⟩ = some b ∧ w.cell? ⟨g, 2, none⟩ = some c := ⟨blk_cell h.out 0, blk_cell h.out 1, blk_cell h.out 2⟩
theorem z1 (h : Hid (w.heap[g]? = some (.cells #[a] t (0, 0)))) : w.frozen? ⟨g, 0, none⟩ = false := blk_frozen h.out 0
theorem z2 (h : Hid (w.heap[g]? = some (.cells #[a, b] t (0, 0)))) : w.frozen? ⟨g, 0, none⟩ = false ∧ w.frozen? ⟨g, 1, none⟩ = false := ⟨blk_frozen h.out 0, blk_frozen h.out 1⟩
theorem z3 (h : Hid (w.heap[g]? = some (.cells #[a, b, c] t (0, 0)))) : w.frozen? ⟨g, 0, none⟩ = false ∧ w.frozen? ⟨g, 1, none⟩ = false ∧ w.frozen? ⟨g, 2, none⟩ = false := ⟨blk_frozen h.out 0, blk_frozen h.out 1, blk_frozen h.out 2⟩
end
theorem cx {w n : World} {a : Addr} {v : Value} (h : Below w.heap.size w n) (x : w.cell? a = some v) : n.cell? a = some v := (h.cell (World.block_lt_of_cell? _ _ x)).trans x
theorem a2 {p q : Prop} (hp : p) (hq : q) : p ∧ q := ⟨hp, hq⟩
theorem a3 {p q r : Prop} (hp : p) (hq : q) (hr : r) : p ∧ q ∧ r := ⟨hp, hq, hr⟩
theorem a4 {p q r s : Prop} (hp : p) (hq : q) (hr : r) (hs : s) : p ∧ q ∧ r ∧ s := ⟨hp, hq, hr, hs⟩
theorem a5 {p q r s t : Prop} (hp : p) (hq : q) (hr : r) (hs : s) (ht : t) : p ∧ q ∧ r ∧ s ∧ t := ⟨hp, hq, hr, hs, ht⟩
section
variable {P : Program} {ops : Array Oper} {Q : Exit → Act → World → Prop} {md : Region.Mode} {S U : World → Prop} {oi : Oper} {v : Value} {fuel : Nat} {listed : Array Bool} {a : Act} {w : World}
theorem tl {ds : List Nat} (i : Nat) (c : ∀ w, S w → U w) (hi : ops[i]? = some oi := by rfl) (hs : Region.noSelect ops = true := by kernel_rfl) (hf : Region.free md ops listed i = true := by kernel_rfl)
  (hr : (Region.ready md ops listed).contains i = true := by kernel_rfl) (hc : Region.closedB md ops listed = true := by kernel_rfl) (hd : Region.lastB md ops listed ds i = true := by kernel_rfl) (hQ : ∀ c a w, Q (.panic c) (a.put oi.dst v) w → Q (.panic c) a w := by exact fun _ _ _ h => h)
  (hw : Region.wanted oi (yielded ops a.tmps) = true := by kernel_rfl)
  (hl : ∀ w, S w → U w → (execOp a.eval oi).run P w = .ok (.value v) w := by intro w hSw hUw; (try dsimp only at hSw); (try simp only [List.getElem?_toArray, List.getElem?_cons_zero, List.getElem?_cons_succ] at hUw); (try simp only [Act.put, List.getElem_toArray, List.getElem_cons_succ, List.getElem_cons_zero, List.setIfInBounds_toArray, List.set_cons_zero, List.set_cons_succ]); go_simp; (try with_reducible rfl))
  (hS : S w := by assumption) (k : wpAnyLast P md ops Q S ds fuel (listed.setIfInBounds i true) (a.put oi.dst v) w) : wpAnyLast P md ops Q S ds (fuel + 1) listed a w :=
 wpAnyLast_take hi hs hf hr hc hd hQ (Or.inl ⟨hw, fun w h => hl w h (c w h)⟩) hS k
theorem sl {ds : List Nat} (i : Nat) (hi : ops[i]? = some oi := by rfl) (hs : Region.noSelect ops = true := by kernel_rfl) (hf : Region.free md ops listed i = true := by kernel_rfl)
  (hr : (Region.ready md ops listed).contains i = true := by kernel_rfl) (hc : Region.closedB md ops listed = true := by kernel_rfl) (hd : Region.lastB md ops listed ds i = true := by kernel_rfl) (hQ : ∀ c a w, Q (.panic c) (a.put oi.dst undef) w → Q (.panic c) a w := by exact fun _ _ _ h => h)
  (hw : Region.wanted oi (yielded ops a.tmps) = false := by rfl)
  (hS : S w := by assumption) (k : wpAnyLast P md ops Q S ds fuel (listed.setIfInBounds i true) (a.put oi.dst undef) w) : wpAnyLast P md ops Q S ds (fuel + 1) listed a w :=
 wpAnyLast_take hi hs hf hr hc hd hQ (Or.inr ⟨hw, rfl⟩) hS k
end
section
variable {P : Program} {ops : Array Oper} {Q : Exit → Act → World → Prop} {md : Region.Mode} {S : World → Prop} {ds : List Nat} {fuel : Nat} {listed : Array Bool} {a : Act} {w : World}
theorem h0 {id : Nat} {a : Act} {w b : World} (k : Nat)  (hb : Hid (Below b.heap.size b w)) (K : ∀ n, (Below b.heap.size b n) → Below w.heap.size w n → wpAnyH P .any ops Q (fun n => Below b.heap.size b n) k (Array.replicate k false) a n) (hm : P.follows .mixedOrders = true := by kernel_rfl) (hk : ops.size = k := by kernel_rfl) : (Code.region id ops true).wp P Q a w := by
 subst hk
 exact wp_region_held_drew (S := fun n => Below b.heap.size b n) hm (below_drew hb.out) (fun h => K _ h (below_drew1 (Below.refl w.heap.size w)))
theorem h1 {id : Nat} {a : Act} {w b : World} {g0 : Nat} {o0 : Obj} (k : Nat) (h0 : Hid (w.heap[g0]? = some o0)) (hb : Hid (Below b.heap.size b w)) (K : ∀ n, (n.heap[g0]? = some o0 ∧ Below b.heap.size b n) → Below w.heap.size w n → wpAnyH P .any ops Q (fun n => n.heap[g0]? = some o0 ∧ Below b.heap.size b n) k (Array.replicate k false) a n) (hm : P.follows .mixedOrders = true := by kernel_rfl) (hk : ops.size = k := by kernel_rfl) : (Code.region id ops true).wp P Q a w := by
 subst hk
 exact wp_region_held_drew (S := fun n => n.heap[g0]? = some o0 ∧ Below b.heap.size b n) hm ⟨(blk_below h0.out (below_drew1 (Below.refl w.heap.size w))), below_drew hb.out⟩ (fun h => K _ h (below_drew1 (Below.refl w.heap.size w)))
theorem h2 {id : Nat} {a : Act} {w b : World} {g0 g1 : Nat} {o0 o1 : Obj} (k : Nat) (h0 : Hid (w.heap[g0]? = some o0)) (h1 : Hid (w.heap[g1]? = some o1)) (hb : Hid (Below b.heap.size b w)) (K : ∀ n, (n.heap[g0]? = some o0 ∧ n.heap[g1]? = some o1 ∧ Below b.heap.size b n) → Below w.heap.size w n → wpAnyH P .any ops Q (fun n => n.heap[g0]? = some o0 ∧ n.heap[g1]? = some o1 ∧ Below b.heap.size b n) k (Array.replicate k false) a n) (hm : P.follows .mixedOrders = true := by kernel_rfl) (hk : ops.size = k := by kernel_rfl) : (Code.region id ops true).wp P Q a w := by
 subst hk
 exact wp_region_held_drew (S := fun n => n.heap[g0]? = some o0 ∧ n.heap[g1]? = some o1 ∧ Below b.heap.size b n) hm ⟨(blk_below h0.out (below_drew1 (Below.refl w.heap.size w))), (blk_below h1.out (below_drew1 (Below.refl w.heap.size w))), below_drew hb.out⟩ (fun h => K _ h (below_drew1 (Below.refl w.heap.size w)))
theorem h3 {id : Nat} {a : Act} {w b : World} {g0 g1 g2 : Nat} {o0 o1 o2 : Obj} (k : Nat) (h0 : Hid (w.heap[g0]? = some o0)) (h1 : Hid (w.heap[g1]? = some o1)) (h2 : Hid (w.heap[g2]? = some o2)) (hb : Hid (Below b.heap.size b w)) (K : ∀ n, (n.heap[g0]? = some o0 ∧ n.heap[g1]? = some o1 ∧ n.heap[g2]? = some o2 ∧ Below b.heap.size b n) → Below w.heap.size w n → wpAnyH P .any ops Q (fun n => n.heap[g0]? = some o0 ∧ n.heap[g1]? = some o1 ∧ n.heap[g2]? = some o2 ∧ Below b.heap.size b n) k (Array.replicate k false) a n) (hm : P.follows .mixedOrders = true := by kernel_rfl) (hk : ops.size = k := by kernel_rfl) : (Code.region id ops true).wp P Q a w := by
 subst hk
 exact wp_region_held_drew (S := fun n => n.heap[g0]? = some o0 ∧ n.heap[g1]? = some o1 ∧ n.heap[g2]? = some o2 ∧ Below b.heap.size b n) hm ⟨(blk_below h0.out (below_drew1 (Below.refl w.heap.size w))), (blk_below h1.out (below_drew1 (Below.refl w.heap.size w))), (blk_below h2.out (below_drew1 (Below.refl w.heap.size w))), below_drew hb.out⟩ (fun h => K _ h (below_drew1 (Below.refl w.heap.size w)))
theorem h4 {id : Nat} {a : Act} {w b : World} {g0 g1 g2 g3 : Nat} {o0 o1 o2 o3 : Obj} (k : Nat) (h0 : Hid (w.heap[g0]? = some o0)) (h1 : Hid (w.heap[g1]? = some o1)) (h2 : Hid (w.heap[g2]? = some o2)) (h3 : Hid (w.heap[g3]? = some o3)) (hb : Hid (Below b.heap.size b w)) (K : ∀ n, (n.heap[g0]? = some o0 ∧ n.heap[g1]? = some o1 ∧ n.heap[g2]? = some o2 ∧ n.heap[g3]? = some o3 ∧ Below b.heap.size b n) → Below w.heap.size w n → wpAnyH P .any ops Q (fun n => n.heap[g0]? = some o0 ∧ n.heap[g1]? = some o1 ∧ n.heap[g2]? = some o2 ∧ n.heap[g3]? = some o3 ∧ Below b.heap.size b n) k (Array.replicate k false) a n) (hm : P.follows .mixedOrders = true := by kernel_rfl) (hk : ops.size = k := by kernel_rfl) : (Code.region id ops true).wp P Q a w := by
 subst hk
 exact wp_region_held_drew (S := fun n => n.heap[g0]? = some o0 ∧ n.heap[g1]? = some o1 ∧ n.heap[g2]? = some o2 ∧ n.heap[g3]? = some o3 ∧ Below b.heap.size b n) hm ⟨(blk_below h0.out (below_drew1 (Below.refl w.heap.size w))), (blk_below h1.out (below_drew1 (Below.refl w.heap.size w))), (blk_below h2.out (below_drew1 (Below.refl w.heap.size w))), (blk_below h3.out (below_drew1 (Below.refl w.heap.size w))), below_drew hb.out⟩ (fun h => K _ h (below_drew1 (Below.refl w.heap.size w)))
theorem h5 {id : Nat} {a : Act} {w b : World} {g0 g1 g2 g3 g4 : Nat} {o0 o1 o2 o3 o4 : Obj} (k : Nat) (h0 : Hid (w.heap[g0]? = some o0)) (h1 : Hid (w.heap[g1]? = some o1)) (h2 : Hid (w.heap[g2]? = some o2)) (h3 : Hid (w.heap[g3]? = some o3)) (h4 : Hid (w.heap[g4]? = some o4)) (hb : Hid (Below b.heap.size b w)) (K : ∀ n, (n.heap[g0]? = some o0 ∧ n.heap[g1]? = some o1 ∧ n.heap[g2]? = some o2 ∧ n.heap[g3]? = some o3 ∧ n.heap[g4]? = some o4 ∧ Below b.heap.size b n) → Below w.heap.size w n → wpAnyH P .any ops Q (fun n => n.heap[g0]? = some o0 ∧ n.heap[g1]? = some o1 ∧ n.heap[g2]? = some o2 ∧ n.heap[g3]? = some o3 ∧ n.heap[g4]? = some o4 ∧ Below b.heap.size b n) k (Array.replicate k false) a n) (hm : P.follows .mixedOrders = true := by kernel_rfl) (hk : ops.size = k := by kernel_rfl) : (Code.region id ops true).wp P Q a w := by
 subst hk
 exact wp_region_held_drew (S := fun n => n.heap[g0]? = some o0 ∧ n.heap[g1]? = some o1 ∧ n.heap[g2]? = some o2 ∧ n.heap[g3]? = some o3 ∧ n.heap[g4]? = some o4 ∧ Below b.heap.size b n) hm ⟨(blk_below h0.out (below_drew1 (Below.refl w.heap.size w))), (blk_below h1.out (below_drew1 (Below.refl w.heap.size w))), (blk_below h2.out (below_drew1 (Below.refl w.heap.size w))), (blk_below h3.out (below_drew1 (Below.refl w.heap.size w))), (blk_below h4.out (below_drew1 (Below.refl w.heap.size w))), below_drew hb.out⟩ (fun h => K _ h (below_drew1 (Below.refl w.heap.size w)))
theorem l0 (ds : List Nat) {id : Nat} {a : Act} {w b : World} (k : Nat)  (hb : Hid (Below b.heap.size b w)) (K : ∀ n, (Below b.heap.size b n) → Below w.heap.size w n → wpAnyLast P .any ops Q (fun n => Below b.heap.size b n) ds k (Array.replicate k false) a n) (hm : P.follows .mixedOrders = true := by kernel_rfl) (hk : ops.size = k := by kernel_rfl) : (Code.region id ops true).wp P Q a w := by
 subst hk
 exact wp_region_last_drew (S := fun n => Below b.heap.size b n) hm (below_drew hb.out) (fun h => K _ h (below_drew1 (Below.refl w.heap.size w)))
theorem l1 (ds : List Nat) {id : Nat} {a : Act} {w b : World} {g0 : Nat} {o0 : Obj} (k : Nat) (h0 : Hid (w.heap[g0]? = some o0)) (hb : Hid (Below b.heap.size b w)) (K : ∀ n, (n.heap[g0]? = some o0 ∧ Below b.heap.size b n) → Below w.heap.size w n → wpAnyLast P .any ops Q (fun n => n.heap[g0]? = some o0 ∧ Below b.heap.size b n) ds k (Array.replicate k false) a n) (hm : P.follows .mixedOrders = true := by kernel_rfl) (hk : ops.size = k := by kernel_rfl) : (Code.region id ops true).wp P Q a w := by
 subst hk
 exact wp_region_last_drew (S := fun n => n.heap[g0]? = some o0 ∧ Below b.heap.size b n) hm ⟨(blk_below h0.out (below_drew1 (Below.refl w.heap.size w))), below_drew hb.out⟩ (fun h => K _ h (below_drew1 (Below.refl w.heap.size w)))
theorem l2 (ds : List Nat) {id : Nat} {a : Act} {w b : World} {g0 g1 : Nat} {o0 o1 : Obj} (k : Nat) (h0 : Hid (w.heap[g0]? = some o0)) (h1 : Hid (w.heap[g1]? = some o1)) (hb : Hid (Below b.heap.size b w)) (K : ∀ n, (n.heap[g0]? = some o0 ∧ n.heap[g1]? = some o1 ∧ Below b.heap.size b n) → Below w.heap.size w n → wpAnyLast P .any ops Q (fun n => n.heap[g0]? = some o0 ∧ n.heap[g1]? = some o1 ∧ Below b.heap.size b n) ds k (Array.replicate k false) a n) (hm : P.follows .mixedOrders = true := by kernel_rfl) (hk : ops.size = k := by kernel_rfl) : (Code.region id ops true).wp P Q a w := by
 subst hk
 exact wp_region_last_drew (S := fun n => n.heap[g0]? = some o0 ∧ n.heap[g1]? = some o1 ∧ Below b.heap.size b n) hm ⟨(blk_below h0.out (below_drew1 (Below.refl w.heap.size w))), (blk_below h1.out (below_drew1 (Below.refl w.heap.size w))), below_drew hb.out⟩ (fun h => K _ h (below_drew1 (Below.refl w.heap.size w)))
theorem l3 (ds : List Nat) {id : Nat} {a : Act} {w b : World} {g0 g1 g2 : Nat} {o0 o1 o2 : Obj} (k : Nat) (h0 : Hid (w.heap[g0]? = some o0)) (h1 : Hid (w.heap[g1]? = some o1)) (h2 : Hid (w.heap[g2]? = some o2)) (hb : Hid (Below b.heap.size b w)) (K : ∀ n, (n.heap[g0]? = some o0 ∧ n.heap[g1]? = some o1 ∧ n.heap[g2]? = some o2 ∧ Below b.heap.size b n) → Below w.heap.size w n → wpAnyLast P .any ops Q (fun n => n.heap[g0]? = some o0 ∧ n.heap[g1]? = some o1 ∧ n.heap[g2]? = some o2 ∧ Below b.heap.size b n) ds k (Array.replicate k false) a n) (hm : P.follows .mixedOrders = true := by kernel_rfl) (hk : ops.size = k := by kernel_rfl) : (Code.region id ops true).wp P Q a w := by
 subst hk
 exact wp_region_last_drew (S := fun n => n.heap[g0]? = some o0 ∧ n.heap[g1]? = some o1 ∧ n.heap[g2]? = some o2 ∧ Below b.heap.size b n) hm ⟨(blk_below h0.out (below_drew1 (Below.refl w.heap.size w))), (blk_below h1.out (below_drew1 (Below.refl w.heap.size w))), (blk_below h2.out (below_drew1 (Below.refl w.heap.size w))), below_drew hb.out⟩ (fun h => K _ h (below_drew1 (Below.refl w.heap.size w)))
theorem r1 (i : Nat) {o : Oper} (h : ∀ K' : Act → World → Prop, Shut (∀ a w, S w → (S w → wpAnyH P md ops Q S fuel (listed.setIfInBounds i true) a w) → K' a w) → if Region.wanted o (yielded ops a.tmps) = true then Oper.wp P o a w K' Q else K' (a.put o.dst undef) w)
  (hr : Region.ready md ops listed = [i] := by kernel_rfl) (ho : ops[i]? = some o := by rfl) : wpAnyH P md ops Q S (fuel + 1) listed a w := wpAnyH_ready hr (by simp) (AllReadyH.cons ho h AllReadyH.nil)
theorem r2 (i j : Nat) {o p : Oper} (h : ∀ K' : Act → World → Prop, Shut (∀ a w, S w → (S w → wpAnyH P md ops Q S fuel (listed.setIfInBounds i true) a w) → K' a w) → if Region.wanted o (yielded ops a.tmps) = true then Oper.wp P o a w K' Q else K' (a.put o.dst undef) w)
  (h2 : ∀ K' : Act → World → Prop, Shut (∀ a w, S w → (S w → wpAnyH P md ops Q S fuel (listed.setIfInBounds j true) a w) → K' a w) → if Region.wanted p (yielded ops a.tmps) = true then Oper.wp P p a w K' Q else K' (a.put p.dst undef) w)
  (hr : Region.ready md ops listed = [i, j] := by kernel_rfl) (ho : ops[i]? = some o := by rfl) (hp : ops[j]? = some p := by rfl) : wpAnyH P md ops Q S (fuel + 1) listed a w := wpAnyH_ready hr (by simp) (AllReadyH.cons ho h (AllReadyH.cons hp h2 AllReadyH.nil))
theorem s1 (i : Nat) {o : Oper} (h : ∀ K' : Act → World → Prop, Shut (∀ a w, S w → (S w → wpAnyLast P md ops Q S ds fuel (listed.setIfInBounds i true) a w) → K' a w) → if Region.wanted o (yielded ops a.tmps) = true then Oper.wp P o a w K' Q else K' (a.put o.dst undef) w)
  (hr : Region.ready md ops listed = [i] := by kernel_rfl) (ho : ops[i]? = some o := by rfl) (hd : i ∉ ds := by decide) : wpAnyLast P md ops Q S ds (fuel + 1) listed a w := wpAnyLast_ready hr (by simp) (AllReadyL.cons ho hd h AllReadyL.nil)
theorem sz (i : Nat) {o : Oper} (h : ∀ K' : Act → World → Prop, Shut (∀ a w, wpAnyLast P md ops Q S ds fuel (listed.setIfInBounds i true) a w → K' a w) → if Region.wanted o (yielded ops a.tmps) = true then Oper.wp P o a w K' Q else K' (a.put o.dst undef) w)
  (hr : Region.ready md ops listed = [i] := by kernel_rfl) (ho : ops[i]? = some o := by rfl) (hd : i ∈ ds := by decide) : wpAnyLast P md ops Q S ds (fuel + 1) listed a w := wpAnyLast_ready hr (by simp) (AllReadyL.cons_last ho hd h AllReadyL.nil)
end
end Z
end Go.Proofs.YtnjmilelifmfpaaGreatDoor.Pure

namespace Go.Proofs.YtnjmilelifmfpaaGreatDoor.Pure
open Go Go.RowKit Go.Lib Go.Proofs Go.Proofs.YtnjmilelifmfpaaGreatDoor.Q Go.Proofs.YtnjmilelifmfpaaGreatDoorW.PrintWords Go.Proofs.YtnjmilelifmfpaaGreatDoorW.PrintLast Go.Proofs.YtnjmilelifmfpaaGreatDoorW.PrintMore
set_option linter.unusedVariables false
set_option linter.unusedSimpArgs false
namespace Tu
open Go.Proofs.YtnjmilelifmfpaaGreatDoor.HSub Go.Proofs.YtnjmilelifmfpaaGreatDoor.HCore
def Res (r : T) (ok : Nat → Prop) (w : World) : Ending → World → Prop := fun e w' => ∃ (A : Option Addr) (c : Nat), e = .returned (.agg #[.int .i64 r.f0, .int .i64 r.f1, .string r.f2, .slice A r.f3.length c]) ∧ r.f3.length ≤ c ∧ Kd.F k24 w' ok A r.f3.length r.f3 ∧ Below w.heap.size w w'
def zeroT : T := ⟨0, 0, ⟨#[]⟩, []⟩
def fill (g : T → Int → T) (l : List T) (b : Int) (i : Nat) : List T := turns g (l.take i) b ++ List.replicate (l.length - i) zeroT
end Tu
end Go.Proofs.YtnjmilelifmfpaaGreatDoor.Pure

namespace Go.Proofs.YtnjmilelifmfpaaGreatDoor.Pure
open Go Go.RowKit Go.Lib Go.Proofs Go.Proofs.YtnjmilelifmfpaaGreatDoor.Q Go.Proofs.YtnjmilelifmfpaaGreatDoorW.PrintWords Go.Proofs.YtnjmilelifmfpaaGreatDoorW.PrintLast Go.Proofs.YtnjmilelifmfpaaGreatDoorW.PrintMore
set_option linter.unusedVariables false
set_option linter.unusedSimpArgs false
namespace Hd
open Go.Proofs.YtnjmilelifmfpaaGreatDoor.HSub Go.Proofs.YtnjmilelifmfpaaGreatDoor.HCore Tu
def Res2 (r : T × Int) (ok : Nat → Prop) (w : World) : Ending → World → Prop := fun e w' => ∃ (A : Option Addr) (c : Nat), e = .returned (.tuple #[.agg #[.int .i64 r.1.f0, .int .i64 r.1.f1, .string r.1.f2, .slice A r.1.f3.length c], .int .i64 r.2]) ∧ r.1.f3.length ≤ c ∧ Kd.F k24 w' ok A r.1.f3.length r.1.f3 ∧ Below w.heap.size w w'
def StepC (x : T) : Prop := ∀ (w : World) (A : Option Addr) (c : Nat) (ok : Nat → Prop), Kd.F k24 w ok A x.f3.length x.f3 → x.f3.length ≤ c → Calls Tryz.prog 22 #[.agg #[.int .i64 x.f0, .int .i64 x.f1, .string x.f2, .slice A x.f3.length c]] w (Res2 (hstep x) (fun k => ok k ∨ w.heap.size ≤ k) w)
theorem N_none {W : World} {base : Nat} {ok : Nat → Prop} (hbase : base ≤ W.heap.size) (hfresh : ok W.heap.size) : Kd.N k24 24 (W.alloc (.cells #[] 24)) base ok (.slice (some ⟨W.heap.size, 0, none⟩) 0 0) [] := by
 refine Kd.R_N ⟨fun k hk => ?_, [], ?_, ?_⟩
 ·have : W.heap.size = k := by simpa [Value.ownBlock] using hk
  subst this; exact hfresh
 ·have h2 := World.ownsRow_lit (base := base) (e := 24) (size := 4) W #[] 0 hbase (by simp [maxLen]) (by simp)
  have h3 : World.ownsRow (W.alloc (.cells #[] 24)) base 24 4 (.slice (some ⟨W.heap.size, 0, none⟩) 0 0) 0 [] := by simpa using h2
  exact h3
 ·exact ⟨rfl, fun j p hj => by simp at hj⟩
set_option maxRecDepth 100000 in
set_option maxHeartbeats 4000000 in
theorem clone_any (l : List T) (ad : Addr) (c : Nat) (hln : l.length ≤ 1000000000) (hp : 0 < l.length) (w : World) (ok okp : Nat → Prop) (hF : Kd.F k24 w okp (some ad) l.length l) (hokp : ∀ k, okp k → ok k ∧ k < w.heap.size) (hfr : ∀ k, w.heap.size ≤ k → ok k) :
  Calls Tryz.prog 90 #[.slice (some ad) l.length c] w fun e w' => ∃ (A2 : Option Addr) (c2 : Nat), e = .returned (.slice A2 l.length c2) ∧ l.length ≤ c2 ∧ Kd.N k24 24 w' w.heap.size ok (.slice A2 l.length c2) l ∧ Below w.heap.size w w' := by
 (have FW := Lib.hid hF; have HP := Lib.hid hokp; have HFR := Lib.hid hfr); clear hF hokp hfr; have HB := Lib.hid (Below.refl w.heap.size w); have hnil_ := Lib.run_eql_slice_nil (P := Tryz.prog) w 22 24 (some ad) l.length c 0 0 Tryz.underlying22; simp only [Option.isNone_some] at hnil_; go_enter Tryz.func90, Tryz.ntmps90; go_upto_region 3 with (fail); have hb0_ := below_alloc (Below.refl w.heap.size w) (.cells #[] 24); have RN := Lib.hid (N_none (W := w) (base := w.heap.size) (ok := ok) (Nat.le_refl _) (HFR.out _ (Nat.le_refl _))); have F1 := Lib.hid (Kd.F_below FW.out hb0_); have HB1 := Lib.hid hb0_; (have h81_ : (([] : List T).length + l.length) * 56 ≤ 140737488355328 := by simp; omega); have HP1 := Lib.hid (show ∀ k, okp k → ok k ∧ some k ≠ (Value.slice (some ⟨w.heap.size, 0, none⟩) 0 0).ownBlock from fun k hk => ⟨(HP.out k hk).1, fun e => by have := (HP.out k hk).2; simp [Value.ownBlock] at e; omega⟩); have HF1 := Lib.hid (show ∀ k, (w.alloc (.cells #[] 24)).heap.size ≤ k → ok k from fun k hk => HFR.out k (Nat.le_trans hb0_.size hk)); clear hb0_; go_wp2_with (refine Kd.N_append_rows k24 (w0 := w) w.heap.size rfl (.tmp 5) (.tmp 6) 22 24 (.agg #[.int .i64 0, .int .i64 0, .string ⟨#[]⟩, .slice none 0 0]) 56 rfl Tryz.underlying22 info24 rfl (by decide) (by omega) (.slice (some ⟨w.heap.size, 0, none⟩) 0 0) [] l (some ad) l.length c ok okp (by first|rfl|(go_simp; done)|(go_simp; rfl)) (by first|rfl|(go_simp; done)|(go_simp; rfl)) RN.out F1.out HP1.out HF1.out HB1.out HB1.out.size h81_ ?_; intro v1 wm ho hb hg hat; rw [List.nil_append] at ho; obtain ⟨A2, c2, rfl, hl2, _⟩ := Kd.N_reads ho; have RN2 := Lib.hid ho; have HB2 := Lib.hid hb; have HL2 := Lib.hid hl2; clear ho hb hg hat hl2); go_ret; exact ⟨A2, c2, rfl, HL2.out, RN2.out, HB2.out⟩
set_option maxRecDepth 100000 in
set_option maxHeartbeats 4000000 in
theorem inside_any (t : T) (i : Nat) (y : T) (hy : t.f3[i]? = some y) (hS : StepC y) (hln : t.f3.length ≤ 1000000000) (w : World) (A : Option Addr) (c : Nat) (ok : Nat → Prop) (hF : Kd.F k24 w ok A t.f3.length t.f3) (hl : t.f3.length ≤ c) :
  Calls Tryz.prog 58 #[.agg #[.int .i64 t.f0, .int .i64 t.f1, .string t.f2, .slice A t.f3.length c], .int .i64 (i : Int)] w (Res2 (if (hstep y).2 = 0 then (t, 0) else (⟨t.f0, t.f1, t.f2, t.f3.set i (hstep y).1⟩, (hstep y).2)) (fun k => ok k ∨ w.heap.size ≤ k) w) := by
 (have FW := Lib.hid hF; have HS := Lib.hid hS; have Yy := Lib.hid hy); clear hF hS hy; obtain ⟨g, hg_⟩ : ∃ g, g = hstep y := ⟨_, rfl⟩; rw [← hg_]; have HG := Lib.hid hg_; clear hg_; obtain ⟨x, what⟩ := g
 by_cases q_ : what = 0
 ·(have b0_ : (what == 0) = true := by first|(simp [q_]; done)|(simp [q_]; omega)); rw [if_pos q_]; have Q := Lib.hid q_; have HB := Lib.hid (Below.refl w.heap.size w); have FA := Lib.hid (Kd.F_bound FW.out); go_enter Tryz.func58, Tryz.ntmps58; go_upto_region 1 with (fail); obtain ⟨w_1,hw_,bk_,hb⟩:=Z.aw w (Obj.cells #[.int .i64 t.f0, .int .i64 t.f1, .string t.f2, .slice A t.f3.length c] 24); have sz_ := (show (w.alloc (Obj.cells #[.int .i64 t.f0, .int .i64 t.f1, .string t.f2, .slice A t.f3.length c] 24)).heap.size = w.heap.size + 1 from Array.size_push _); (try rw [hw_] at sz_); (try rw [hw_]); clear hw_; replace bk_:=bk_.out; (replace HB:=Z.mB HB hb; replace FA:=Z.mF FA hb); clear hb; have BT := Lib.hid bk_; clear bk_; obtain ⟨GR, hGR_⟩ : ∃ g, g = w.heap.size + 1 := ⟨_, rfl⟩; (have gr_ : w.heap.size < GR := by omega); have sz2_ := Lib.hid sz_; clear sz_; obtain ⟨w_2,hw_,bk_,hb⟩:=Z.aw w_1 (Obj.cells #[.int .i64 0, .int .i64 0, .string ⟨#[]⟩, .slice none 0 0] 24); (try rw [hw_]); clear hw_; replace bk_:=bk_.out; (replace HB:=Z.mB HB hb; replace FA:=Z.mF FA hb; replace BT:=Z.mK BT hb); clear hb; have BR := Lib.hid bk_; clear bk_; rw [sz2_.out, ← hGR_] at BR; rw [← hGR_]; have GR_ := Lib.hid gr_; clear hGR_ sz2_ gr_; obtain ⟨t0,t1,t2,t3⟩:=Z.c4 BT; obtain ⟨zt0,zt1,zt2,zt3⟩:=Z.z4 BT; obtain ⟨r0,r1,r2,r3⟩:=Z.c4 BR; obtain ⟨zr0,zr1,zr2,zr3⟩:=Z.z4 BR; obtain ⟨ady, Ay, cy, hA_, x0_y, x1_y, x2_y, x3_y, hly, CXy⟩ := WK.tm_getF FA.out Yy.out; subst hA_; have CXy := Lib.hid CXy; have lty_ := WK.get_lt Yy.out; have luy_ := Int.ofNat_lt.2 lty_; (try simp only [Int.ofNat_eq_natCast, Int.cast_ofNat_Int, Int.natCast_zero] at luy_); go_wp2_with fail; have hs_ := HS.out w_2 Ay cy _ CXy.out hly; rw [← HG.out] at hs_; have HC := Lib.hid hs_; have gw_ := blk_lt BR.out; clear hs_
  skip
  refine (HC.out).mono ?_; rintro e w_3 ⟨Ax, cx, rfl, hlx, hf_, hb⟩; have FX := Lib.hid (Kd.F_mono (ok' := (fun k => (ok k ∧ k < w.heap.size) ∨ GR + 1 ≤ k)) hf_ (fun k hk => hk.imp id (Nat.le_trans gw_))); (replace HB:=Z.mB HB hb; replace FA:=Z.mF FA hb; replace BT:=Z.mK BT hb; replace BR:=Z.mK BR hb; replace CXy:=Z.mF CXy hb); clear hb; clear hf_ HC gw_ x0_y x1_y x2_y x3_y; clear t0 t1 t2 t3 zt0 zt1 zt2 zt3 r0 r1 r2 r3 zr0 zr1 zr2 zr3; obtain ⟨t0,t1,t2,t3⟩:=Z.c4 BT; obtain ⟨zt0,zt1,zt2,zt3⟩:=Z.z4 BT; obtain ⟨r0,r1,r2,r3⟩:=Z.c4 BR; obtain ⟨zr0,zr1,zr2,zr3⟩:=Z.z4 BR; go_upto_region 2 with (fail); clear t0 t1 t2 t3 zt0 zt1 zt2 zt3 r0 r1 r2 r3 zr0 zr1 zr2 zr3; obtain ⟨w_4,hw_,bk_,hb⟩:=Z.aw w_3 (Obj.cells #[.int .i64 x.f0, .int .i64 x.f1, .string x.f2, .slice Ax x.f3.length cx] 24); (try rw [hw_]); clear hw_; replace bk_:=bk_.out; (replace HB:=Z.mB HB hb; replace FA:=Z.mF FA hb; replace BT:=Z.mK BT hb; replace BR:=Z.mK BR hb; replace CXy:=Z.mF CXy hb; replace FX:=Z.mF FX hb); clear hb; have BX := Lib.hid bk_; clear bk_; obtain ⟨t0,t1,t2,t3⟩:=Z.c4 BT; obtain ⟨zt0,zt1,zt2,zt3⟩:=Z.z4 BT; obtain ⟨r0,r1,r2,r3⟩:=Z.c4 BR; obtain ⟨zr0,zr1,zr2,zr3⟩:=Z.z4 BR; obtain ⟨x0,x1,x2,x3⟩:=Z.c4 BX; obtain ⟨zx0,zx1,zx2,zx3⟩:=Z.z4 BX; go_wp2_with fail; have gr_ := GR_.out; refine bodyPost_ret (results_ct rfl _ _ GR 24 #[.int .i64 t.f0, .int .i64 t.f1, .string t.f2, .slice (some ady) t.f3.length c] (0, 0) _ rfl (WK.blk4 BR.out _ _ _ _) Tryz.underlying24 rfl (by kernel_rfl)) rfl ?_; exact ⟨(some ady), c, rfl, hl, Kd.F_mono (WK.F4 FA.out (fun k hk => Nat.ne_of_lt (Nat.lt_trans hk.2 gr_)) _ _ _ _) (fun k hk => Or.inl (And.left hk)), WK.below4 HB.out (Nat.le_of_lt gr_) _ _ _ _⟩
 ·(have b0_ : (what == 0) = false := by first|(simp [q_]; done)|(simp [q_]; omega)); rw [if_neg q_]; simp only []; have Q := Lib.hid q_; have HB := Lib.hid (Below.refl w.heap.size w); have FA := Lib.hid (Kd.F_bound FW.out); go_enter Tryz.func58, Tryz.ntmps58; go_upto_region 1 with (fail); obtain ⟨w_5,hw_,bk_,hb⟩:=Z.aw w (Obj.cells #[.int .i64 t.f0, .int .i64 t.f1, .string t.f2, .slice A t.f3.length c] 24); have sz_ := (show (w.alloc (Obj.cells #[.int .i64 t.f0, .int .i64 t.f1, .string t.f2, .slice A t.f3.length c] 24)).heap.size = w.heap.size + 1 from Array.size_push _); (try rw [hw_] at sz_); (try rw [hw_]); clear hw_; replace bk_:=bk_.out; (replace HB:=Z.mB HB hb; replace FA:=Z.mF FA hb); clear hb; have BT := Lib.hid bk_; clear bk_; obtain ⟨GR, hGR_⟩ : ∃ g, g = w.heap.size + 1 := ⟨_, rfl⟩; (have gr_ : w.heap.size < GR := by omega); have sz2_ := Lib.hid sz_; clear sz_; obtain ⟨w_6,hw_,bk_,hb⟩:=Z.aw w_5 (Obj.cells #[.int .i64 0, .int .i64 0, .string ⟨#[]⟩, .slice none 0 0] 24); (try rw [hw_]); clear hw_; replace bk_:=bk_.out; (replace HB:=Z.mB HB hb; replace FA:=Z.mF FA hb; replace BT:=Z.mK BT hb); clear hb; have BR := Lib.hid bk_; clear bk_; rw [sz2_.out, ← hGR_] at BR; rw [← hGR_]; have GR_ := Lib.hid gr_; clear hGR_ sz2_ gr_; obtain ⟨t0,t1,t2,t3⟩:=Z.c4 BT; obtain ⟨zt0,zt1,zt2,zt3⟩:=Z.z4 BT; obtain ⟨r0,r1,r2,r3⟩:=Z.c4 BR; obtain ⟨zr0,zr1,zr2,zr3⟩:=Z.z4 BR; obtain ⟨ady, Ay, cy, hA_, x0_y, x1_y, x2_y, x3_y, hly, CXy⟩ := WK.tm_getF FA.out Yy.out; subst hA_; have CXy := Lib.hid CXy; have lty_ := WK.get_lt Yy.out; have luy_ := Int.ofNat_lt.2 lty_; (try simp only [Int.ofNat_eq_natCast, Int.cast_ofNat_Int, Int.natCast_zero] at luy_); go_wp2_with fail; have hs_ := HS.out w_6 Ay cy _ CXy.out hly; rw [← HG.out] at hs_; have HC := Lib.hid hs_; have gw_ := blk_lt BR.out; clear hs_
  skip
  refine (HC.out).mono ?_; rintro e w_7 ⟨Ax, cx, rfl, hlx, hf_, hb⟩; have FX := Lib.hid (Kd.F_mono (ok' := (fun k => (ok k ∧ k < w.heap.size) ∨ GR + 1 ≤ k)) hf_ (fun k hk => hk.imp id (Nat.le_trans gw_))); (replace HB:=Z.mB HB hb; replace FA:=Z.mF FA hb; replace BT:=Z.mK BT hb; replace BR:=Z.mK BR hb; replace CXy:=Z.mF CXy hb); clear hb; clear hf_ HC gw_ x0_y x1_y x2_y x3_y; clear t0 t1 t2 t3 zt0 zt1 zt2 zt3 r0 r1 r2 r3 zr0 zr1 zr2 zr3; obtain ⟨t0,t1,t2,t3⟩:=Z.c4 BT; obtain ⟨zt0,zt1,zt2,zt3⟩:=Z.z4 BT; obtain ⟨r0,r1,r2,r3⟩:=Z.c4 BR; obtain ⟨zr0,zr1,zr2,zr3⟩:=Z.z4 BR; go_upto_region 2 with (fail); clear t0 t1 t2 t3 zt0 zt1 zt2 zt3 r0 r1 r2 r3 zr0 zr1 zr2 zr3; have gxr_ := Lib.hid (blk_lt BR.out); have FX2 := Lib.hid (Kd.F_bound FX.out); clear FX; have FX := FX2; clear FX2; obtain ⟨w_8,hw_,bk_,hb⟩:=Z.aw w_7 (Obj.cells #[.int .i64 x.f0, .int .i64 x.f1, .string x.f2, .slice Ax x.f3.length cx] 24); (try rw [hw_]); clear hw_; replace bk_:=bk_.out; (replace HB:=Z.mB HB hb; replace FA:=Z.mF FA hb; replace BT:=Z.mK BT hb; replace BR:=Z.mK BR hb; replace CXy:=Z.mF CXy hb; replace FX:=Z.mF FX hb); clear hb; have BX := Lib.hid bk_; clear bk_; generalize w_7.heap.size = GX at BX gxr_ FX ⊢; obtain ⟨t0,t1,t2,t3⟩:=Z.c4 BT; obtain ⟨zt0,zt1,zt2,zt3⟩:=Z.z4 BT; obtain ⟨r0,r1,r2,r3⟩:=Z.c4 BR; obtain ⟨zr0,zr1,zr2,zr3⟩:=Z.z4 BR; obtain ⟨x0,x1,x2,x3⟩:=Z.c4 BX; obtain ⟨zx0,zx1,zx2,zx3⟩:=Z.z4 BX; have lty_ := WK.get_lt Yy.out; go_upto_region 4 with (fail); go_wp2_with fail; have gw_ := blk_lt BX.out; have hc_ := clone_any t.f3 ady c hln (by omega) w_8 (fun k => ((ok k ∧ k < w.heap.size) ∨ GR + 1 ≤ k) ∧ k ≠ GX) (fun k => ok k ∧ k < w.heap.size) FA.out (fun k hk => ⟨⟨Or.inl hk, fun e => by have := gxr_.out; have := GR_.out; omega⟩, by have := HB.out.size; omega⟩) (fun k hk => ⟨Or.inr (by have := gxr_.out; omega), fun e => by omega⟩); have HC := Lib.hid hc_; clear hc_ gw_; have gxw_ := blk_lt BX.out
  skip
  refine (HC.out).mono ?_; rintro e w_9 ⟨A2, c2, rfl, hl2, hn_, hb⟩; have RN := Lib.hid (Kd.N_lower hn_ HB.out.size); (replace HB:=Z.mB HB hb; replace FA:=Z.mF FA hb; replace BT:=Z.mK BT hb; replace BR:=Z.mK BR hb; replace CXy:=Z.mF CXy hb; replace FX:=Z.mF FX hb; replace BX:=Z.mK BX hb); clear hb; have NB := Lib.hid (show ∀ k, (Value.slice A2 t.f3.length c2).ownBlock = some k → GX < k from fun k hk => Nat.lt_of_lt_of_le gxw_ (Kd.N_base hn_ k hk)); clear hn_ HC gxw_; clear t0 t1 t2 t3 zt0 zt1 zt2 zt3 r0 r1 r2 r3 zr0 zr1 zr2 zr3 x0 x1 x2 x3 zx0 zx1 zx2 zx3; obtain ⟨t0,t1,t2,t3⟩:=Z.c4 BT; obtain ⟨zt0,zt1,zt2,zt3⟩:=Z.z4 BT; obtain ⟨r0,r1,r2,r3⟩:=Z.c4 BR; obtain ⟨zr0,zr1,zr2,zr3⟩:=Z.z4 BR; obtain ⟨x0,x1,x2,x3⟩:=Z.c4 BX; obtain ⟨zx0,zx1,zx2,zx3⟩:=Z.z4 BX; go_upto_region 5 with (fail); clear t0 t1 t2 t3 zt0 zt1 zt2 zt3 r0 r1 r2 r3 zr0 zr1 zr2 zr3 x0 x1 x2 x3 zx0 zx1 zx2 zx3; have n0_ := Lib.hid (below_set (j := 3) (v := (.slice A2 t.f3.length c2)) HB.out (Nat.le_refl _)); have n1_ := Lib.hid (blk_put BT.out 3 (.slice A2 t.f3.length c2) (cs' := #[.int .i64 t.f0, .int .i64 t.f1, .string t.f2, .slice A2 t.f3.length c2]) rfl); have n2_ := Lib.hid (blk_far BR.out (p := ⟨w.heap.size, 3, none⟩) (Nat.ne_of_gt GR_.out) (.slice A2 t.f3.length c2)); have n3_ := Lib.hid (blk_far BX.out (p := ⟨w.heap.size, 3, none⟩) (by have := gxr_.out; have := GR_.out; show GX ≠ w.heap.size; omega) (.slice A2 t.f3.length c2)); have n4_ := Lib.hid (Kd.N_far (p := ⟨w.heap.size, 3, none⟩) RN.out (fun k hk => by have := GR_.out; show k ≠ w.heap.size; rcases hk.1 with h | h <;> omega) (.slice A2 t.f3.length c2)); have n5_ := Lib.hid (Kd.F_far (p := ⟨w.heap.size, 3, none⟩) FX.out (fun k hk => by have := GR_.out; show k ≠ w.heap.size; rcases hk.1 with h | h <;> omega) (.slice A2 t.f3.length c2)); clear HB BT BR BX RN FX FA CXy; (have HB := n0_; have BT := n1_; have BR := n2_; have BX := n3_; have RN := n4_; have FX := n5_); clear n0_ n1_ n2_ n3_ n4_ n5_; generalize hw_ : (w_9.setCell ⟨w.heap.size, 3, none⟩ (.slice A2 t.f3.length c2)) = w_10 at HB BT BR BX RN FX ⊢; clear hw_; obtain ⟨t0,t1,t2,t3⟩:=Z.c4 BT; obtain ⟨zt0,zt1,zt2,zt3⟩:=Z.z4 BT; obtain ⟨r0,r1,r2,r3⟩:=Z.c4 BR; obtain ⟨zr0,zr1,zr2,zr3⟩:=Z.z4 BR; obtain ⟨x0,x1,x2,x3⟩:=Z.c4 BX; obtain ⟨zx0,zx1,zx2,zx3⟩:=Z.z4 BX; obtain ⟨GL, cap_, hv_, hgb_, hgl_, _⟩ := Kd.N_form RN.out (by omega); injection hv_ with hA2_ _ hc2_; subst hA2_; subst hc2_; have hgn_ := RN.out.1 GL (by simp [Value.ownBlock]); (have hgl2_ : GR + 1 ≤ GL := by have := hgn_.1; rcases this with h | h <;> omega); obtain ⟨ce, hcl_, _, hcc_, _⟩ := Kd.N_elem RN.out zeroT (i : Int) (by omega) (by omega)
  skip
  have hgx_ : GX < GL := NB.out GL (by simp [Value.ownBlock]); have hM_ := k24_mkF w_10 (fun k => ((ok k ∧ k < w.heap.size) ∨ GR + 1 ≤ k) ∧ k < GX) x hlx FX.out; (have hs_ : ce.take 0 ++ [.int .i64 x.f0, .int .i64 x.f1, .string x.f2, .slice Ax x.f3.length cx] ++ ce.drop (0 + 4) = [.int .i64 x.f0, .int .i64 x.f1, .string x.f2, .slice Ax x.f3.length cx] := by rw [List.drop_eq_nil_of_le (by have : ce.length = 4 := hcl_; omega)]; simp); (have hop_ : ∀ k, (fun k => ((ok k ∧ k < w.heap.size) ∨ GR + 1 ≤ k) ∧ k < GX) k → (fun k => ((ok k ∧ k < w.heap.size) ∨ GR + 1 ≤ k) ∧ k ≠ GX) k ∧ k ≠ GL := fun k hk => ⟨⟨hk.1, Nat.ne_of_lt hk.2⟩, fun e => by have := hk.2; omega⟩); (have H1 := Lib.hid hop_; have H2 := Lib.hid hcc_; have H3 := Lib.hid hM_; have H4 := Lib.hid hs_; have H5 := Lib.hid hcl_; have gr9_ := GR_.out; have gx9_ := gxr_.out); clear hop_ hcc_ hM_ hs_ hcl_ hgn_; go_wp2_with (refine Kd.N_store k24 (w0 := w) w.heap.size rfl rfl 24 (.tmp 29) (.tmp 28) rfl 24 (i : Int) 0 t.f3 x (.agg #[.int .i64 x.f0, .int .i64 x.f1, .string x.f2, .slice Ax x.f3.length cx]) [.int .i64 x.f0, .int .i64 x.f1, .string x.f2, .slice Ax x.f3.length cx] ce (fun k => ((ok k ∧ k < w.heap.size) ∨ GR + 1 ≤ k) ∧ k ≠ GX) (fun k => ((ok k ∧ k < w.heap.size) ∨ GR + 1 ≤ k) ∧ k < GX) (by first|rfl|(go_simp; done)|(go_simp; rfl)) (by first|rfl|(simp; done)|(simp; omega)) (by first|rfl|(go_simp; done)|(go_simp; rfl)) rfl (show (Tryz.prog.info? 24).map (·.size) = some 4 from by kernel_rfl) (k24.K_one (Kd.FK_now H3.out)) RN.out (by omega) (by omega) H5.out H2.out (Nat.le_refl 4) (show Kd.FK k24 w_10 (fun k => ((ok k ∧ k < w.heap.size) ∨ GR + 1 ≤ k) ∧ k < GX) x (ce.take 0 ++ [.int .i64 x.f0, .int .i64 x.f1, .string x.f2, .slice Ax x.f3.length cx] ++ ce.drop (0 + 4)) from by rw [H4.out]; exact H3.out) H1.out HB.out ?_; intro ws ho hb hg; rw [Int.toNat_natCast] at ho; have BT5 := Lib.hid (blk_grown BT.out hg (by intro e; injection e with e; omega)); have BR5 := Lib.hid (blk_grown BR.out hg (by intro e; injection e with e; omega)); have RN5 := Lib.hid ho; have HB5 := Lib.hid hb; clear ho hb hg HB BT BR BX RN FX t0 t1 t2 t3 zt0 zt1 zt2 zt3 r0 r1 r2 r3 zr0 zr1 zr2 zr3 x0 x1 x2 x3 zx0 zx1 zx2 zx3; have t0 := blk_cell BT5.out 0; have zt0 := blk_frozen BT5.out 0; have t1 := blk_cell BT5.out 1; have zt1 := blk_frozen BT5.out 1; have t2 := blk_cell BT5.out 2; have zt2 := blk_frozen BT5.out 2; have t3 := blk_cell BT5.out 3; have zt3 := blk_frozen BT5.out 3; have r0 := blk_cell BR5.out 0; have zr0 := blk_frozen BR5.out 0; have r1 := blk_cell BR5.out 1; have zr1 := blk_frozen BR5.out 1; have r2 := blk_cell BR5.out 2; have zr2 := blk_frozen BR5.out 2; have r3 := blk_cell BR5.out 3; have zr3 := blk_frozen BR5.out 3; simp only [List.getElem?_toArray, List.getElem?_cons_zero, List.getElem?_cons_succ] at t0 t1 t2 t3 r0 r1 r2 r3); have hF_ := Kd.N_F RN5.out; have FL := Lib.hid hF_; have hset_ : (t.f3.set i x).length = t.f3.length := List.length_set; have HSE := Lib.hid hset_; clear hset_ hF_; have gr_ := GR_.out; refine bodyPost_ret (results_ct rfl _ _ GR 24 #[.int .i64 t.f0, .int .i64 t.f1, .string t.f2, .slice (some ⟨GL, 0, none⟩) t.f3.length c2] (0, 0) _ rfl (WK.blk4 BR5.out _ _ _ _) Tryz.underlying24 rfl (by kernel_rfl)) rfl ?_; exact ⟨some ⟨GL, 0, none⟩, c2, by (rw [HSE.out] <;> rfl), by rw [HSE.out]; exact hl2, by rw [HSE.out]; exact Kd.F_mono (WK.F4 FL.out (fun k hk => by rcases hk.1 with h | h <;> omega) _ _ _ _) (fun k hk => by rcases hk.1 with h | h; exact Or.inl h.1; exact Or.inr (by omega)), WK.below4 HB5.out (Nat.le_of_lt gr_) _ _ _ _⟩
end Hd
end Go.Proofs.YtnjmilelifmfpaaGreatDoor.Pure

namespace Go.Proofs.YtnjmilelifmfpaaGreatDoor.Ev
open Go Go.RowKit Go.Proofs.YtnjmilelifmfpaaGreatDoor.Q Go.Proofs.YtnjmilelifmfpaaGreatDoorW.PrintWords Go.Proofs.YtnjmilelifmfpaaGreatDoorW.PrintLast Go.Proofs.YtnjmilelifmfpaaGreatDoorW.PrintMore
open HCore (wt wts may same height heights size sizes)
open Go.Proofs.YtnjmilelifmfpaaGreatDoor.HSub (hstep)
set_option linter.unusedSimpArgs false
set_option linter.unusedVariables false
noncomputable def Sok (ok : Nat → Prop) (w : World) : Snap := SW (only ok w)
theorem Sok_agr {ok : Nat → Prop} {w : World} : Agr (Sok ok w) w := by
 refine ⟨fun b o v h => (only_cell h).2, fun b o v o' v' h h' => ?_⟩
 have hb := (only_cell h).1
 show (only ok w).cell? ⟨b, o', none⟩ = some v'
 rw [World.cell?_of_block (w := w) (only_get hb)]; exact h'
theorem stepC_of {y : Tm} (hz : size (hstep y).1 ≤ 9223372036854775807) (ih : ∀ J : JW, JOk J → OkAt Tryz.prog J 22 [.agg (encT y)] (.ret (.tup [.agg (encT (hstep y).1), .s (.int .i64 (hstep y).2)]))) : Pure.Hd.StepC y := by
 intro w A c ok hF hl
 have hC := hF (only ok w) fun k hk _ => only_get hk
 have hr : Rep (g0 (Sok ok w)) (.agg (encT y)) (.agg #[.int .i64 y.f0, .int .i64 y.f1, .string y.f2, .slice A y.f3.length c]) := .com (repT (w := only ok w) hl hC)
 have hc := ih (Jof w) (Jof.ok w) (Sok ok w) w [.agg #[.int .i64 y.f0, .int .i64 y.f1, .string y.f2, .slice A y.f3.length c]] (Below.refl _ _) Sok_agr (.cons hr .nil)
 refine Calls.mono hc fun e w' h => ?_
 cases e with
 | returned x =>
  obtain ⟨S', s1, s2, hA', hb, r⟩ := h
  cases r with
  | com r => cases r with | cel r => cases r with | pur p => cases p
  | tup cs =>
   cases cs with | cons r0 cs =>
   cases cs with | cons r1 cs =>
   cases cs
   have e1 := sc_rep (.com r1) rfl
   subst e1
   obtain ⟨A', c', rfl, hl', hF'⟩ := argF hA' hz (.com r0)
   refine ⟨A', c', rfl, hl', Kd.F_mono hF' fun k hk => ?_, hb⟩
   obtain ⟨o, v, hv⟩ := hk
   by_cases hlt : k < w.heap.size
   ·rw [s2 k o hlt] at hv
    exact .inl (only_cell hv).1
   ·exact .inr (Nat.le_of_not_lt hlt)
 | panicked ch => exact h.elim
 | outgrown => exact h.elim
def insideR (t : Tm) (i : Nat) (y : Tm) : Tm × Int := if (hstep y).2 = 0 then (t, 0) else (⟨t.f0, t.f1, t.f2, t.f3.set i (hstep y).1⟩, (hstep y).2)
abbrev TInside (n : Nat) : Spec := fun args out => ∃ (t : Tm) (i : Nat) (y : Tm), args = [.agg (encT t), .s (.int .i64 (i : Int))] ∧ t.f3[i]? = some y ∧ Pure.Hd.StepC y ∧ size t ≤ 1000000000 ∧
 out = .ret (.tup [.agg (encT (insideR t i y).1), .s (.int .i64 (insideR t i y).2)])
theorem c_inside {J : JW} {n : Nat} : Con Tryz.prog J 58 (TInside n) := by
 rintro args out ⟨t, i, y, rfl, hy, hS, hs, rfl⟩
 show ∀ S w vs, J w → Agr S w → All2 (Rep (g0 S)) _ vs → Calls Tryz.prog _ vs.toArray w (Post S w _)
 intro S w vs hJ hA h
 cases h with | cons r0 h =>
 cases h with | cons r1 h =>
 cases h
 have e1 := sc_rep r1 rfl
 subst e1
 have sl := len_sizes t.f3
 have sd := size_of t
 obtain ⟨A, c, rfl, hl, hF⟩ := argF hA (by omega) r0
 refine (Pure.Hd.inside_any t i y hy hS (by omega) w A c _ hF hl).mono fun e w' h => ?_
 obtain ⟨A', c', rfl, hl', hF', hb⟩ := h
 obtain ⟨s1, s2, s3⟩ := Snew_ok hA hb
 exact ⟨_, s1, s2, s3, hb, .tup (.cons (resF hA hb hl' hF') (.cons (.cel (.pur (.s rfl))) .nil))⟩
end Go.Proofs.YtnjmilelifmfpaaGreatDoor.Ev

namespace Go.Proofs.YtnjmilelifmfpaaGreatDoor.Ev
open Go Go.RowKit
open HCore (wt wts may same height heights size sizes)
open Go.Proofs.YtnjmilelifmfpaaGreatDoor.HSub (turn turns tame tames put inst failT num truth compute still find hstep stepApp stepCase stepOp stepOp2 hd)
set_option linter.unusedSimpArgs false
set_option linter.unusedVariables false
def fstS : ACode → ACode
 | .seq x _ => x
 | x => x
def sndS : ACode → ACode
 | .seq _ x => x
 | x => x
theorem split36 : c36 = .seq (fstS c36) (.seq (.seq (fstS (fstS (sndS c36))) (sndS (fstS (sndS c36)))) (sndS (sndS c36))) := rfl
def stepOut (p : Tm × Int) : AOut := .ret (.tup [.agg (encT p.1), .s (.int .i64 p.2)])
abbrev TApply : Spec := fun args out => ∃ (t x z : Tm) (r : List Tm), args = [.agg (encT t)] ∧ t.f0 = 3 ∧ t.f3 = x :: z :: r ∧ tame t ∧ size t ≤ 1000000 ∧ Pure.Hd.StepC x ∧ (x.f0 = 2 → ∃ q r', x.f3 = q :: r') ∧ out = stepOut (hstep t)
theorem app_of {t x z : Tm} {r : List Tm} (h0 : t.f0 = 3) (h3 : t.f3 = x :: z :: r) : hstep t = if x.f0 = 2 then (put (hd x.f3) 0 z, 1) else if x.f0 = 4 ∨ x.f0 = 7 ∨ x.f0 = 9 then (failT, 4) else insideR t 0 x := by
 obtain ⟨k, m, s, l⟩ := t
 dsimp only at h0 h3
 subst h0 h3
 rw [hstep, if_pos rfl, stepApp]
 rfl
theorem get0 {l r : List Tm} {x : Tm} (h : l = x :: r) : (encTs l)[Int.toNat 0]? = some [.s (.int .i64 x.f0), .s (.int .i64 x.f1), .s (.string x.f2), .row (encTs x.f3)] := by rw [h, ← encT_is]; rfl
theorem get1 {l r : List Tm} {x z : Tm} (h : l = x :: z :: r) : (encTs l)[Int.toNat 1]? = some [.s (.int .i64 z.f0), .s (.int .i64 z.f1), .s (.string z.f2), .row (encTs z.f3)] := by rw [h, ← encT_is]; rfl
set_option maxHeartbeats 4000000 in
theorem c_apply {J : JW} (hJ : JOk J) : Con Tryz.prog J 36 TApply := by
 obtain ⟨code, h1, h2, h3, h4⟩ := k36
 refine con (E := env [(56, TPut), (57, TFailed), (58, TInside 0)]) (ok_cons (c_put hJ) (ok_cons (c_failed hJ) (ok_cons c_inside ok_nil))) hJ h1 h2 h3 h4 fun args out h => ?_
 obtain ⟨t, x, z, r, rfl, k0, k3, ht, hs, hS, hlam, rfl⟩ := h
 refine ⟨rfl, by rw [Tryz.ntmps36]; simp, ?_⟩
 rw [app_of k0 k3]
 rw [tame_of] at ht
 obtain ⟨-, -, ts⟩ := ht
 have sd := size_of t
 have xm : x ∈ t.f3 := by rw [k3]; simp
 have zm : z ∈ t.f3 := by rw [k3]; simp
 have xs := sizes_mem xm
 have zs := sizes_mem zm
 have tx := tames_mem ts xm
 have tz := tames_mem ts zm
 rw [encT_is t]
 rw [split36]
 obtain ⟨M, hM⟩ : ∃ M, M = sndS (fstS (sndS c36)) := ⟨_, rfl⟩
 obtain ⟨N, hN⟩ : ∃ N, N = sndS (sndS c36) := ⟨_, rfl⟩
 rw [← hM, ← hN]
 simp only [c36, fstS, sndS]
 refine go ?_
 simp only [get0 k3]
 refine go ?_
 subst hM hN
 simp only [c36, fstS, sndS]
 refine go ?_
 cases e2 : (x.f0 == 2) with
 | true =>
  have kk : x.f0 = 2 := by simpa using e2
  obtain ⟨q, r', hq⟩ := hlam kk
  have qm : q ∈ x.f3 := by rw [hq]; simp
  have qs := sizes_mem qm
  have sx := size_of x
  rw [tame_of] at tx
  refine go ?_
  simp only [get0 hq, get1 k3]
  refine go ?_
  refine call (T := TPut) ⟨q, 0, z, by rw [encT_is q, encT_is z], tames_mem tx.2.2 qm, by omega, by omega, by omega, tz, by omega, rfl⟩ ?_
  rw [if_pos kk, hq, show hd (q :: r') = q from rfl, encT_is (put q 0 z)]
  refine go ?_
  unfold stepOut
  rw [encT_is (put q 0 z)]
 | false =>
 have n2 : ¬ x.f0 = 2 := by simpa using e2
 rw [if_neg n2]
 refine go ?_
 cases e4 : (x.f0 == 4) with
 | true =>
  have kk : x.f0 = 4 := by simpa using e4
  rw [if_pos (by omega)]
  refine go ?_
  refine call (T := TFailed) ⟨rfl, rfl⟩ ?_
  rw [failT_is]
  refine go ?_
  unfold stepOut
  rw [failT_is]
 | false =>
 have n4 : ¬ x.f0 = 4 := by simpa using e4
 refine go ?_
 cases e7 : (x.f0 == 7) with
 | true =>
  have kk : x.f0 = 7 := by simpa using e7
  rw [if_pos (by omega)]
  refine go ?_
  refine call (T := TFailed) ⟨rfl, rfl⟩ ?_
  rw [failT_is]
  refine go ?_
  unfold stepOut
  rw [failT_is]
 | false =>
 have n7 : ¬ x.f0 = 7 := by simpa using e7
 refine go ?_
 cases e9 : (x.f0 == 9) with
 | true =>
  have kk : x.f0 = 9 := by simpa using e9
  rw [if_pos (by omega)]
  refine go ?_
  refine call (T := TFailed) ⟨rfl, rfl⟩ ?_
  rw [failT_is]
  refine go ?_
  unfold stepOut
  rw [failT_is]
 | false =>
 have n9 : ¬ x.f0 = 9 := by simpa using e9
 refine go ?_
 rw [if_neg (by omega)]
 refine call (T := TInside 0) ⟨t, 0, x, by rw [encT_is t]; rfl, by rw [k3]; rfl, hS, by omega, rfl⟩ ?_
 rw [encT_is (insideR t 0 x).1]
 refine go ?_
 unfold stepOut
 rw [encT_is (insideR t 0 x).1]
end Go.Proofs.YtnjmilelifmfpaaGreatDoor.Ev

namespace Go.Proofs.YtnjmilelifmfpaaGreatDoor.Ev
open Go Go.RowKit
open HCore (wt wts may same height heights size sizes)
open Go.Proofs.YtnjmilelifmfpaaGreatDoor.HSub (turn turns tame tames put inst failT num truth compute still find hstep stepApp stepCase stepOp stepOp2 hd)
set_option linter.unusedSimpArgs false
set_option linter.unusedVariables false
def fits (s a : Tm) : Bool := decide (a.f2 = s.f2) && decide (a.f1 = (s.f3.length : Int))
abbrev T60 : Spec := fun args out => ∃ (a s : Tm), args = [.tup [.agg (encT s)], .agg (encT a), .ptr 0 0] ∧ out = .ret (.tup [.s (.bool (fits s a)), .agg (encT s)])
theorem c_e60 {J : JW} (hJ : JOk J) : Con Tryz.prog J 60 T60 := by
 obtain ⟨code, h1, h2, h3, h4⟩ := k60
 refine conH (E := envH 1 []) (ok_h ok_nil) hJ h1 h2 h3 h4 (fun args out h => ?_) (h0 := Nat.zero_lt_one)
 obtain ⟨x, s, rfl, rfl⟩ := h
 refine ⟨[encT s], _, rfl, rfl, by rw [Tryz.ntmps60]; simp, ?_⟩
 unfold fits
 rw [encT_is x, encT_is s]
 unfold c60
 refine go ?_
 by_cases h : x.f2 = s.f2
 ·simp only [h, decide_true]
  refine go ?_
  rw [encTs_len]; rfl
 ·simp only [h, decide_false]
  refine go ?_
  rfl
theorem find_fidx (s : Tm) : ∀ (l : List Tm) (k : Nat), match find s.f2.data.toList (s.f3.length : Int) l with
  | none => fidx (fits s) l k = -1
  | some x => ∃ i : Nat, l[i]? = some x ∧ fidx (fits s) l k = ((k + i : Nat) : Int)
 | [], k => rfl
 | x :: l, k => by
  have ih := find_fidx s l (k + 1)
  rw [find, fidx]
  by_cases h : x.f2.data.toList = s.f2.data.toList ∧ x.f1 = (s.f3.length : Int)
  ·rw [if_pos h]
   have : fits s x = true := by unfold fits; rw [ba_eqC]; simp [h.1, h.2]
   rw [if_pos this]
   exact ⟨0, rfl, rfl⟩
  ·rw [if_neg h]
   have : ¬ fits s x = true := by unfold fits; rw [ba_eqC]; simpa using h
   rw [if_neg this]
   revert ih
   cases find s.f2.data.toList (s.f3.length : Int) l with
   | none => exact id
   | some z => exact fun ⟨i, h1, h2⟩ => ⟨i + 1, h1, by rw [h2]; omega⟩
end Go.Proofs.YtnjmilelifmfpaaGreatDoor.Ev

namespace Go.Proofs.YtnjmilelifmfpaaGreatDoor.Ev
open Go Go.RowKit
open HCore (wt wts may same height heights size sizes)
open Go.Proofs.YtnjmilelifmfpaaGreatDoor.HSub (turn turns tame tames put inst failT num truth compute still find hstep stepApp stepCase stepOp stepOp2 hd)
set_option linter.unusedSimpArgs false
set_option linter.unusedVariables false
theorem split37 : c37 = .seq (fstS c37) (.seq (fstS (sndS c37)) (sndS (sndS c37))) := rfl
abbrev TPick : Spec := fun args out => ∃ (t x : Tm) (r : List Tm), args = [.agg (encT t)] ∧ t.f0 = 5 ∧ t.f3 = x :: r ∧ tame t ∧ size t ≤ 1000000 ∧ Pure.Hd.StepC x ∧ (∀ y ∈ r, ∃ q r', y.f3 = q :: r') ∧ out = stepOut (hstep t)
theorem case_of {t x : Tm} {r : List Tm} (h0 : t.f0 = 5) (h3 : t.f3 = x :: r) : hstep t = if x.f0 = 2 ∨ x.f0 = 7 ∨ x.f0 = 9 then ((failT, 4) : Tm × Int) else if x.f0 = 4 then (match find x.f2.data.toList x.f3.length r with | some a => ((inst (hd a.f3) x.f3, 2) : Tm × Int) | none => (failT, 4)) else insideR t 0 x := by
 obtain ⟨k, m, s, l⟩ := t
 dsimp only at h0 h3
 subst h0 h3
 rw [hstep, if_neg (by decide), if_pos rfl, stepCase]
 rfl
set_option maxHeartbeats 4000000 in
theorem c_pick {J : JW} (hJ : JOk J) : Con Tryz.prog J 37 TPick := by
 obtain ⟨code, h1, h2, h3, h4⟩ := k37
 refine con (E := env [(61, TInst), (57, TFailed), (58, TInside 0), (59, TIdx 60 T60)]) (ok_cons (c_inst hJ) (ok_cons (c_failed hJ) (ok_cons c_inside (ok_cons (c_idx hJ (c_e60 hJ) (by kernel_rfl)) ok_nil)))) hJ h1 h2 h3 h4 fun args out h => ?_
 obtain ⟨t, x, r, rfl, k0, k3, ht, hs, hS, hal, rfl⟩ := h
 refine ⟨rfl, by rw [Tryz.ntmps37]; simp, ?_⟩
 rw [case_of k0 k3]
 rw [tame_of] at ht
 obtain ⟨-, -, ts⟩ := ht
 have sd := size_of t
 have xm : x ∈ t.f3 := by rw [k3]; simp
 have xs := sizes_mem xm
 have tx := tames_mem ts xm
 rw [encT_is t]
 rw [split37]
 obtain ⟨M, hM⟩ : ∃ M, M = sndS (sndS c37) := ⟨_, rfl⟩
 rw [← hM]
 simp only [c37, fstS, sndS]
 refine go ?_
 simp only [get0 k3]
 refine go ?_
 subst hM
 simp only [c37, fstS, sndS]
 refine go ?_
 cases e2 : (x.f0 == 2) with
 | true =>
  have kk : x.f0 = 2 := by simpa using e2
  rw [if_pos (by omega)]
  refine go ?_
  refine call (T := TFailed) ⟨rfl, rfl⟩ ?_
  rw [failT_is]
  refine go ?_
  unfold stepOut
  rw [failT_is]
 | false =>
 have n2 : ¬ x.f0 = 2 := by simpa using e2
 refine go ?_
 cases e7 : (x.f0 == 7) with
 | true =>
  have kk : x.f0 = 7 := by simpa using e7
  rw [if_pos (by omega)]
  refine go ?_
  refine call (T := TFailed) ⟨rfl, rfl⟩ ?_
  rw [failT_is]
  refine go ?_
  unfold stepOut
  rw [failT_is]
 | false =>
 have n7 : ¬ x.f0 = 7 := by simpa using e7
 refine go ?_
 cases e9 : (x.f0 == 9) with
 | true =>
  have kk : x.f0 = 9 := by simpa using e9
  rw [if_pos (by omega)]
  refine go ?_
  refine call (T := TFailed) ⟨rfl, rfl⟩ ?_
  rw [failT_is]
  refine go ?_
  unfold stepOut
  rw [failT_is]
 | false =>
 have n9 : ¬ x.f0 = 9 := by simpa using e9
 refine go ?_
 rw [if_neg (show ¬ (x.f0 = 2 ∨ x.f0 = 7 ∨ x.f0 = 9) by omega)]
 cases e4 : (x.f0 == 4) with
 | true =>
  have kk : x.f0 = 4 := by simpa using e4
  rw [if_pos kk]
  refine go ?_
  have rl : r.length + 1 = t.f3.length := by rw [k3]; rfl
  have tl := len_sizes t.f3
  have ht' : Int.toNat 1 ≤ (encTs t.f3).length ∧ (encTs t.f3).length ≤ (encTs t.f3).length ∧ ((encTs t.f3).all fun c => c.length == 4) = true := ⟨by rw [encTs_len]; show 1 ≤ _; omega, Nat.le_refl _, encTs_all _⟩
  rw [if_pos ht', take_len, show List.drop (Int.toNat 1) (encTs t.f3) = encTs r by rw [k3]; rfl]
  refine go ?_
  refine ⟨_, ⟨[.s (.int .i64 x.f0), .s (.int .i64 x.f1), .s (.string x.f2), .row (encTs x.f3)], r, fits x, rfl, by omega, flat_t, fun y hy => ⟨y, x, by rw [encT_is x], by rw [encT_is x]⟩, rfl⟩, ?_⟩
  have hfi := find_fidx x r 0
  refine go ?_
  revert hfi
  cases hfd : find x.f2.data.toList (x.f3.length : Int) r with
  | none =>
   intro hfi
   dsimp only at hfi
   rw [hfi]
   refine go ?_
   refine call (T := TFailed) ⟨rfl, rfl⟩ ?_
   rw [failT_is]
   refine go ?_
   unfold stepOut
   rw [failT_is]
  | some y =>
   rintro ⟨i, hy, hfi⟩
   rw [hfi]
   simp only [show ¬ (((0 + i : Nat) : Int) < 0) by omega, decide_false]
   refine go ?_
   have ir : i < r.length := (List.getElem?_eq_some_iff.1 hy).1
   have ym : y ∈ r := List.mem_of_getElem? hy
   have ym' : y ∈ t.f3 := by rw [k3]; exact List.mem_cons_of_mem _ ym
   obtain ⟨q, r', hq⟩ := hal y ym
   have qm : q ∈ y.f3 := by rw [hq]; simp
   have ty := tames_mem ts ym'
   have ys := sizes_mem ym'
   have sy := size_of y
   have qs := sizes_mem qm
   have sx := size_of x
   have xl := len_sizes x.f3
   rw [tame_of] at ty tx
   have hy1 : t.f3[1 + i]? = some y := by rw [k3, Nat.add_comm]; exact hy
   rw [wr (by omega) (by omega), if_pos (by omega)]
   simp only [show (1 + (i : Int)).toNat = 1 + i by omega, eget hy1]
   refine go ?_
   simp only [get0 hq]
   refine go ?_
   refine call (T := TInst) ⟨q, x.f3, by rw [encT_is q], tames_mem ty.2.2 qm, by omega, by omega, fun z hz => ⟨tames_mem tx.2.2 hz, by have := sizes_mem hz; omega⟩, rfl⟩ ?_
   rw [show hd y.f3 = q by rw [hq]; rfl, encT_is (inst q x.f3)]
   refine go ?_
   unfold stepOut
   rw [encT_is (inst q x.f3)]
 | false =>
 have n4 : ¬ x.f0 = 4 := by simpa using e4
 rw [if_neg n4]
 refine go ?_
 refine call (T := TInside 0) ⟨t, 0, x, by rw [encT_is t]; rfl, by rw [k3]; rfl, hS, by omega, rfl⟩ ?_
 rw [encT_is (insideR t 0 x).1]
 refine go ?_
 unfold stepOut
 rw [encT_is (insideR t 0 x).1]
end Go.Proofs.YtnjmilelifmfpaaGreatDoor.Ev

namespace Go.Proofs.YtnjmilelifmfpaaGreatDoor.Ev
open Go Go.RowKit
open HCore (wt wts may same height heights size sizes)
open Go.Proofs.YtnjmilelifmfpaaGreatDoor.HSub (turn turns tame tames put inst failT num truth compute still find hstep stepApp stepCase stepOp stepOp2 hd)
set_option linter.unusedSimpArgs false
set_option linter.unusedVariables false
def bad (x : Tm) : Prop := x.f0 = 2 ∨ x.f0 = 4 ∨ x.f0 = 9
instance (x : Tm) : Decidable (bad x) := inferInstanceAs (Decidable (x.f0 = 2 ∨ x.f0 = 4 ∨ x.f0 = 9))
theorem op_of {t x y : Tm} (h0 : t.f0 = 8) (h3 : t.f3 = [x, y]) : hstep t = if bad x then ((failT, 4) : Tm × Int) else if x.f0 = 7 then (if bad y then (failT, 4) else if y.f0 = 7 then compute t.f2.data.toList x.f1 y.f1 else insideR t 1 y) else insideR t 0 x := by
 obtain ⟨k, m, s, l⟩ := t
 dsimp only at h0 h3
 subst h0 h3
 rw [hstep, if_neg (by decide), if_neg (by decide), if_pos rfl, stepOp, stepOp2]
 rfl
theorem hide2 {P : Program} {E : Env} {K : AEx → AS → Prop} {x y : ACode} {st : AS} (h : ∀ M, M = y → awp P E (.seq x M) K st) : awp P E (.seq x y) K st := h y rfl
theorem hideB {P : Program} {E : Env} {K : AEx → AS → Prop} {n : Nat} {x y z : ACode} {st : AS} (h : ∀ M, M = y → awp P E (.seq (.block n (.seq x M)) z) K st) : awp P E (.seq (.block n (.seq x y)) z) K st := h y rfl
abbrev TOperate : Spec := fun args out => ∃ (t x y : Tm), args = [.agg (encT t)] ∧ t.f0 = 8 ∧ t.f3 = [x, y] ∧ size t ≤ 1000000 ∧ Pure.Hd.StepC x ∧ Pure.Hd.StepC y ∧ out = stepOut (hstep t)
def opS (t : Tm) (i : Nat) : AS := ⟨tm [(9, .s (.int .i64 (i : Int))), (8, .s (.int .i64 ((encTs t.f3).length : Int))), (7, .row (encTs t.f3)), (1, .ptr 0 0), (2, .ptr 1 0)],
 bm [(0, some [.s (.int .i64 t.f0), .s (.int .i64 t.f1), .s (.string t.f2), .row (encTs t.f3)]), (1, some zC)], bm [], 2⟩
set_option maxHeartbeats 4000000 in
theorem c_operate {J : JW} (hJ : JOk J) : Con Tryz.prog J 38 TOperate := by
 obtain ⟨code, h1, h2, h3, h4⟩ := k38
 refine con (E := env [(57, TFailed), (62, TCompute), (58, TInside 0)]) (ok_cons (c_failed hJ) (ok_cons (c_compute hJ) (ok_cons c_inside ok_nil))) hJ h1 h2 h3 h4 fun args out h => ?_
 obtain ⟨t, x, y, rfl, k0, k3, hs, hS, hS', rfl⟩ := h
 refine ⟨rfl, by rw [Tryz.ntmps38]; simp, ?_⟩
 rw [op_of k0 k3]
 rw [encT_is t]
 unfold c38
 refine go ?_
 refine countI t.f3.length (fun i (_ : Unit) => ∀ (j : Nat) (z : Tm), j < i → t.f3[j]? = some z → z.f0 = 7) (fun i _ => opS t i) () (fun j z h _ => absurd h (Nat.not_lt_zero j)) (lm [(0, 0), (1, 1)] (hB := by simp [bsub, onto, bm, subs, subC, zC])) fun i _ hi hI => ?_
 unfold opS
 refine hide2 fun M hM => ?_
 refine go ?_
 subst hM
 by_cases p : (i : Int) < (encTs t.f3).length
 ·simp only [p, decide_true]
  obtain ⟨z, hz, hzm, hl'⟩ := part p
  refine hide2 fun M hM => ?_
  refine go ?_
  subst hM
  refine hideB fun M hM => ?_
  refine go ?_
  simp only [eget hz]
  refine go ?_
  subst hM
  have hzi : (bad z → hstep t = ((failT, 4) : Tm × Int)) ∧ (¬ bad z → z.f0 ≠ 7 → hstep t = insideR t i z) ∧ Pure.Hd.StepC z := by
   rw [op_of k0 k3]
   rw [k3] at hz hl'
   match i, hz, hl', hI with
   | 0, hz, _, _ =>
    have e : x = z := by simpa using hz
    subst e
    exact ⟨fun h => if_pos h, fun h h7 => by rw [if_neg h, if_neg h7], hS⟩
   | 1, hz, _, hI =>
    have e : y = z := by simpa using hz
    subst e
    have kx : x.f0 = 7 := hI 0 x (by omega) (by rw [k3]; rfl)
    have nx : ¬ bad x := fun h => by unfold bad at h; omega
    exact ⟨fun h => by rw [if_neg nx, if_pos kx, if_pos h], fun h h7 => by rw [if_neg nx, if_pos kx, if_neg h, if_neg h7], hS'⟩
   | j + 2, _, hl', _ => simp at hl'; omega
  obtain ⟨z1, z2, z3⟩ := hzi
  have hil : i < 1000000 := by have := size_of t; have := len_sizes t.f3; omega
  rw [← op_of k0 k3]
  refine go ?_
  cases e2 : (z.f0 == 2) with
  | true =>
   have kk : z.f0 = 2 := by simpa using e2
   rw [z1 (.inl kk)]
   refine go ?_
   refine call (T := TFailed) ⟨rfl, rfl⟩ ?_
   rw [failT_is]
   refine go ?_
   unfold stepOut
   rw [failT_is]
  | false =>
  have n2 : ¬ z.f0 = 2 := by simpa using e2
  refine go ?_
  cases e4 : (z.f0 == 4) with
  | true =>
   have kk : z.f0 = 4 := by simpa using e4
   rw [z1 (.inr (.inl kk))]
   refine go ?_
   refine call (T := TFailed) ⟨rfl, rfl⟩ ?_
   rw [failT_is]
   refine go ?_
   unfold stepOut
   rw [failT_is]
  | false =>
  have n4 : ¬ z.f0 = 4 := by simpa using e4
  refine go ?_
  cases e9 : (z.f0 == 9) with
  | true =>
   have kk : z.f0 = 9 := by simpa using e9
   rw [z1 (.inr (.inr kk))]
   refine go ?_
   refine call (T := TFailed) ⟨rfl, rfl⟩ ?_
   rw [failT_is]
   refine go ?_
   unfold stepOut
   rw [failT_is]
  | false =>
  have n9 : ¬ z.f0 = 9 := by simpa using e9
  have nb : ¬ bad z := fun h => by unfold bad at h; omega
  refine go ?_
  cases e7 : (z.f0 == 7) with
  | true =>
   have kk : z.f0 = 7 := by simpa using e7
   refine go ?_
   rw [wr (by omega) (by omega)]
   refine ⟨hl', (), fun j u hj hu => ?_, lm [(0, 0), (1, 1)] (hB := by simp [bsub, onto, bm, subs, subC, zC])⟩
   by_cases hji : j < i
   ·exact hI j u hji hu
   ·have : j = i := by omega
    subst this
    rw [hz] at hu; cases hu; exact kk
  | false =>
  have n7 : ¬ z.f0 = 7 := by simpa using e7
  rw [z2 nb n7]
  refine go ?_
  refine call (T := TInside 0) ⟨t, i, z, by rw [encT_is t], hz, z3, by omega, rfl⟩ ?_
  rw [encT_is (insideR t i z).1]
  refine go ?_
  unfold stepOut
  rw [encT_is (insideR t i z).1]
 ·simp only [p, decide_false]
  have := fin_at hi p
  subst this
  have kx : x.f0 = 7 := hI 0 x (by rw [k3]; simp) (by rw [k3]; rfl)
  have ky : y.f0 = 7 := hI 1 y (by rw [k3]; simp) (by rw [k3]; rfl)
  have nb : ∀ w : Tm, w.f0 = 7 → ¬ bad w := fun w h => by unfold bad; omega
  rw [if_neg (nb x kx), if_pos kx, if_neg (nb y ky), if_pos ky]
  refine hide2 fun M hM => ?_
  refine go ?_
  simp only [get0 k3, get1 k3]
  refine go ?_
  refine call (T := TCompute) ⟨t.f2, x.f1, y.f1, rfl, rfl⟩ ?_
  subst hM
  rw [encT_is (compute t.f2.data.toList x.f1 y.f1).1]
  refine go ?_
  unfold stepOut
  rw [encT_is (compute t.f2.data.toList x.f1 y.f1).1]
end Go.Proofs.YtnjmilelifmfpaaGreatDoor.Ev

namespace Go.Proofs.YtnjmilelifmfpaaGreatDoor.Pure.Hd
def freeT : Int := 4611686018427387904
end Go.Proofs.YtnjmilelifmfpaaGreatDoor.Pure.Hd
namespace Go.Proofs.YtnjmilelifmfpaaGreatDoor.Ev
open Go Go.RowKit
open HCore (wt wts may same height heights size sizes each)
open Go.Proofs.YtnjmilelifmfpaaGreatDoor.HSub (turn turns tame tames put inst failT num truth compute still find hstep hd)
open Go.Proofs.YtnjmilelifmfpaaGreatDoor.Pure.CoreStep
open Pure.Hd (freeT)
set_option linter.unusedSimpArgs false
set_option linter.unusedVariables false
theorem tames_of : ∀ {l : List Tm}, (∀ y ∈ l, tame y) → tames l
 | [], _ => trivial
 | x :: r, h => ⟨h x (List.mem_cons_self ..), tames_of (fun y hy => h y (List.mem_cons_of_mem _ hy))⟩
theorem tame_may : ∀ (n : Nat) (x : Tm) (a : Int), height x ≤ n → 0 ≤ a → a + 8 * (height x : Int) ≤ 5000000000000000000 → may x a = true → tame x
 | 0, x, a, hn, _, _, _ => by cases x; simp [height] at hn
 | n + 1, ⟨k, m, s, l⟩, a, hn, ha, hb, hm => by
  have hp : ∀ y ∈ l, height y + 1 ≤ height (⟨k, m, s, l⟩ : Tm) := fun y hy => by have h1 := height_mem hy; have h2 : height (⟨k, m, s, l⟩ : Tm) = heights l + 1 := rfl; omega
  have go : ∀ y ∈ l, ∀ b : Int, 0 ≤ b → b ≤ a + 1 → may y b = true → tame y := fun y hy b h0 h1 hmy => by
   have := hp y hy
   exact tame_may n y b (by omega) h0 (by omega) hmy
  show (k = 1 → 0 ≤ m ∧ m ≤ 5000000000000000000) ∧ (k = 6 → 0 ≤ m ∧ m ≤ 8) ∧ tames l
  have hk := kinds hm
  simp only at hk
  have h6 : k ≠ 6 := by omega
  refine ⟨fun h1 => ?_, fun h => absurd h h6, ?_⟩
  ·have := Pure.CoreTurn.var_is ⟨k, m, s, l⟩ a h1 hm
   simp only at this
   omega
  ·rcases hk with h | h | h | h | h | h | h | h
   ·subst h
    have := hm
    rw [Pure.CoreTurn.may_var _ _ rfl] at this
    simp only [Bool.and_eq_true, decide_eq_true_eq] at this
    rw [List.eq_nil_of_length_eq_zero this.1.1.1]; trivial
   ·subst h
    have := hm
    rw [may_is] at this
    simp at this
    rw [this.1.1]; trivial
   ·subst h
    have := hm
    rw [may_is] at this
    simp at this
    rw [this.1.1]; trivial
   ·subst h
    obtain ⟨y, hy, hmy⟩ := lam_is hm rfl
    simp only at hy
    subst hy
    exact ⟨go y (by simp) (a + 1) (by omega) (by omega) hmy, trivial⟩
   ·subst h
    obtain ⟨y, z, rfl, hy, hz, _⟩ := app_is hm
    exact ⟨go y (by simp) a ha (by omega) hy, go z (by simp) a ha (by omega) hz, trivial⟩
   ·subst h
    obtain ⟨y, z, rfl, hy, hz, _⟩ := op_is hm
    exact ⟨go y (by simp) a ha (by omega) hy, go z (by simp) a ha (by omega) hz, trivial⟩
   ·subst h
    have hc := con_is hm rfl
    exact tames_of (fun y hy => go y hy a ha (by omega) (each_get hc.2.2.2 hy))
   ·subst h
    obtain ⟨y, r, rfl, hy, hr, _, _, _⟩ := case_is hm
    refine ⟨go y (by simp) a ha (by omega) hy, tames_of (fun z hz => ?_)⟩
    obtain ⟨h60, h61, h62, h63, h64⟩ := alt_get hr z hz
    have hzh := hp z (by simp [hz])
    obtain ⟨q, hq⟩ := hd_one h63
    rw [hq] at h64
    have hmq := each_get h64 (List.mem_singleton_self q)
    obtain ⟨zk, zm, zs, zl⟩ := z
    simp only at h60 h61 h62 hq
    subst hq; subst h60
    have hqh : height q + 1 ≤ height (⟨6, zm, zs, [q]⟩ : Tm) := by simp only [height, heights]; omega
    exact ⟨fun h => by omega, fun _ => ⟨h61, h62⟩, tame_may n q (a + zm) (by omega) (by omega) (by omega) hmq, trivial⟩
abbrev TStepN (n : Nat) : Spec := fun args out => ∃ x : Tm, args = [.agg (encT x)] ∧ height x < n ∧ may x freeT = true ∧ size x ≤ 1000000 ∧ out = stepOut (hstep x)
set_option maxHeartbeats 4000000 in
theorem c_stepN : ∀ (n : Nat) (J : JW), JOk J → Con Tryz.prog J 22 (TStepN n)
 | 0, J, hJ => by rintro args out ⟨x, rfl, h, _⟩; exact absurd h (Nat.not_lt_zero _)
 | n + 1, J, hJ => by
  obtain ⟨code, h1, h2, h3, h4⟩ := k22
  refine con (E := env [(36, TApply), (37, TPick), (38, TOperate)]) (ok_cons (c_apply hJ) (ok_cons (c_pick hJ) (ok_cons (c_operate hJ) ok_nil))) hJ h1 h2 h3 h4 fun args out h => ?_
  obtain ⟨x, rfl, hh, hm, hs, rfl⟩ := h
  refine ⟨rfl, by rw [Tryz.ntmps22]; simp, ?_⟩
  have hhs := height_le_size x
  have ht : tame x := tame_may _ x freeT (Nat.le_refl _) (by decide) (by unfold freeT; omega) hm
  have sd := size_of x
  have part : ∀ y ∈ x.f3, may y freeT = true → Pure.Hd.StepC y := fun y hy hmy => by
   have hy1 := height_mem hy
   have hy2 := height_of x
   have hy3 := sizes_mem hy
   have hsq := Pure.CoreRun.size_step _ y (Nat.le_refl _)
   have hq : size y * size y ≤ 1000000 * 1000000 := Nat.mul_le_mul (by omega) (by omega)
   exact stepC_of (by omega) fun J hJ => c_stepN n J hJ _ _ ⟨y, rfl, by omega, hmy, by omega, rfl⟩
  rw [encT_is x]
  unfold c22
  refine go ?_
  cases e3 : (x.f0 == 3) with
  | true =>
   have kk : x.f0 = 3 := by simpa using e3
   have hxx : ∃ y z, x.f3 = [y, z] ∧ may y freeT = true ∧ may z freeT = true := by
    obtain ⟨k, m, s, l⟩ := x
    simp only at kk; subst kk
    obtain ⟨y, z, h, hy, hz, _⟩ := app_is hm
    exact ⟨y, z, h, hy, hz⟩
   obtain ⟨y, z, hl, my, mz⟩ := hxx
   refine go ?_
   refine call (T := TApply) ⟨x, y, z, [], by rw [encT_is x], kk, hl, ht, hs, part y (by rw [hl]; simp) my, fun h2 => ?_, rfl⟩ ?_
   ·obtain ⟨q, hq, _⟩ := lam_is my h2
    exact ⟨q, [], hq⟩
   unfold stepOut
   rw [encT_is (hstep x).1]
   refine go ?_
   trivial
  | false =>
  have n3 : ¬ x.f0 = 3 := by simpa using e3
  refine go ?_
  cases e5 : (x.f0 == 5) with
  | true =>
   have kk : x.f0 = 5 := by simpa using e5
   have hxx : ∃ y r, x.f3 = y :: r ∧ may y freeT = true ∧ (∀ z ∈ r, ∃ q r', z.f3 = q :: r') := by
    obtain ⟨k, m, s, l⟩ := x
    simp only at kk; subst kk
    obtain ⟨y, r, h, hy, hr, _⟩ := case_is hm
    refine ⟨y, r, h, hy, fun z hz => ?_⟩
    obtain ⟨q, hq⟩ := hd_one (alt_get hr z hz).2.2.2.1
    exact ⟨q, [], hq⟩
   obtain ⟨y, r, hl, my, hr⟩ := hxx
   refine go ?_
   refine call (T := TPick) ⟨x, y, r, by rw [encT_is x], kk, hl, ht, hs, part y (by rw [hl]; simp) my, hr, rfl⟩ ?_
   unfold stepOut
   rw [encT_is (hstep x).1]
   refine go ?_
   trivial
  | false =>
  have n5 : ¬ x.f0 = 5 := by simpa using e5
  refine go ?_
  cases e8 : (x.f0 == 8) with
  | true =>
   have kk : x.f0 = 8 := by simpa using e8
   have hxx : ∃ y z, x.f3 = [y, z] ∧ may y freeT = true ∧ may z freeT = true := by
    obtain ⟨k, m, s, l⟩ := x
    simp only at kk; subst kk
    obtain ⟨y, z, h, hy, hz, _⟩ := op_is hm
    exact ⟨y, z, h, hy, hz⟩
   obtain ⟨y, z, hl, my, mz⟩ := hxx
   refine go ?_
   refine call (T := TOperate) ⟨x, y, z, by rw [encT_is x], kk, hl, hs, part y (by rw [hl]; simp) my, part z (by rw [hl]; simp) mz, rfl⟩ ?_
   unfold stepOut
   rw [encT_is (hstep x).1]
   refine go ?_
   trivial
  | false =>
  have n8 : ¬ x.f0 = 8 := by simpa using e8
  refine go ?_
  have e : hstep x = (x, 0) := by
   obtain ⟨k, m, s, l⟩ := x
   simp only at n3 n5 n8
   rw [step_is, if_neg n3, if_neg n5, if_neg n8]
  rw [e]
  unfold stepOut
  rw [encT_is x]
abbrev TStep : Spec := fun args out => ∃ x : Tm, args = [.agg (encT x)] ∧ may x freeT = true ∧ size x ≤ 1000000 ∧ out = .ret (.tup [.agg (encT (hstep x).1), .s (.int .i64 (hstep x).2)])
theorem c_step {J : JW} (hJ : JOk J) : Con Tryz.prog J 22 TStep := by
 rintro args out ⟨x, rfl, hm, hs, rfl⟩
 exact c_stepN (height x + 1) J hJ _ _ ⟨x, rfl, Nat.lt_succ_self _, hm, hs, rfl⟩
end Go.Proofs.YtnjmilelifmfpaaGreatDoor.Ev

namespace Go.Proofs.YtnjmilelifmfpaaGreatDoor.Ev
open Go Go.RowKit
open HCore (wt wts may same height heights size sizes)
open Go.Proofs.YtnjmilelifmfpaaGreatDoor.HSub (hstep)
open Pure.CoreRun (run_is size_step)
set_option linter.unusedSimpArgs false
set_option linter.unusedVariables false
def stepF (x : Tm) : Tm × Int := if may x Pure.Hd.freeT = true then hstep x else (x, 0)
abbrev THStep : Spec := fun args out => ∃ x : Tm, args = [.agg (encT x)] ∧ wt x ≤ 1000000000 ∧ size x ≤ 1000000 ∧ out = .ret (.tup [.agg (encT (stepF x).1), .s (.int .i64 (stepF x).2)])
theorem c_hstep {J : JW} (hJ : JOk J) : Con Tryz.prog J 12 THStep := by
 obtain ⟨code, h1, h2, h3, h4⟩ := k12
 refine con (ok_cons (c_may hJ) (ok_cons (c_step hJ) ok_nil)) hJ h1 h2 h3 h4 fun args out h => ?_
 obtain ⟨x, rfl, hw, hs, rfl⟩ := h
 have hh := height_le_size x
 refine ⟨rfl, by rw [Tryz.ntmps12]; simp, ?_⟩
 rw [encT_is x]
 unfold c12
 refine go ?_
 refine call (T := TMay) ⟨x, 4611686018427387904, by rw [encT_is], hw, by omega, by omega, rfl⟩ ?_
 cases hm : may x 4611686018427387904 with
 | false =>
  have e : stepF x = (x, 0) := if_neg (by rw [show Pure.Hd.freeT = 4611686018427387904 from rfl, hm]; decide)
  rw [e, encT_is x]
  refine go ?_
  trivial
 | true =>
  have e : stepF x = hstep x := if_pos hm
  refine go ?_
  refine call (T := TStep) ⟨x, by rw [encT_is], hm, hs, rfl⟩ ?_
  rw [e, encT_is]
  refine go ?_
  trivial
def runF (x : Tm) (fuel : Int) : Tm × Int × Int := if may x 0 = true ∧ 0 ≤ fuel ∧ fuel ≤ 100000 then HSub.run (fuel.toNat + 1) x 0 fuel.toNat else (HSub.nothing, 0, 1)
def hRunS (y : Tm) (n : Nat) (fuel : Int) : AS := ⟨tm [(7, .s (.int .i64 n)), (1, .s (.int .i64 fuel)), (2, .ptr 0 0), (4, .ptr 1 0)], bm [(0, some (cX y)), (1, some [.s (.int .i64 0), .s (.int .i64 0), .s (.string ⟨#[]⟩), .s (.slice none 0 0)])], bm [], 2⟩
abbrev TRun : Spec := fun args out => ∃ (x : Tm) (fuel : Int), args = [.agg (encT x), .s (.int .i64 fuel)] ∧ wt x ≤ 1000000000 ∧ size x ≤ 1000000 ∧ out = .ret (.tup [.agg (encT (runF x fuel).1), .s (.int .i64 (runF x fuel).2.1), .s (.int .i64 (runF x fuel).2.2)])
theorem encT_nothing : encT HSub.nothing = [.s (.int .i64 0), .s (.int .i64 0), .s (.string ⟨#[]⟩), .row []] := rfl
set_option maxHeartbeats 4000000 in
theorem c_hrun {J : JW} (hJ : JOk J) : Con Tryz.prog J 14 TRun := by
 obtain ⟨code, h1, h2, h3, h4⟩ := k14
 refine con (ok_cons (c_may hJ) (ok_cons (c_step hJ) (ok_cons (c_size hJ 30000000) ok_nil))) hJ h1 h2 h3 h4 fun args out h => ?_
 obtain ⟨x, fuel, rfl, hw, hs, rfl⟩ := h
 have hh := height_le_size x
 refine ⟨rfl, by rw [Tryz.ntmps14]; simp, ?_⟩
 rw [encT_is x]
 unfold c14
 refine go ?_
 refine call (T := TMay) ⟨x, 0, by rw [encT_is], hw, by omega, by omega, rfl⟩ ?_
 cases hm : may x 0 with
 | false =>
  have e : runF x fuel = (HSub.nothing, 0, 1) := if_neg (by rw [hm]; simp)
  rw [e, encT_nothing]
  refine go ?_
  trivial
 | true =>
 refine go ?_
 by_cases q1 : fuel < 0
 ·have e : runF x fuel = (HSub.nothing, 0, 1) := if_neg (by omega)
  rw [e, encT_nothing]
  simp only [q1, decide_true]
  refine go ?_
  trivial
 simp only [q1, decide_false]
 refine go ?_
 by_cases q2 : fuel > 100000
 ·have e : runF x fuel = (HSub.nothing, 0, 1) := if_neg (by omega)
  rw [e, encT_nothing]
  simp only [q2, decide_true]
  refine go ?_
  trivial
 simp only [q2, decide_false]
 refine go ?_
 have e : runF x fuel = HSub.run (fuel.toNat + 1) x 0 fuel.toNat := if_pos ⟨hm, by omega, by omega⟩
 rw [e]
 refine loop (ι := { p : Tm × Nat // p.2 ≤ fuel.toNat ∧ may p.1 0 = true ∧ size p.1 ≤ 25000000 ∧ HSub.run (fuel.toNat - p.2 + 1) p.1 p.2 (fuel.toNat - p.2) = HSub.run (fuel.toNat + 1) x 0 fuel.toNat }) (fun p => hRunS p.1.1 p.1.2 fuel) (fun p => fuel.toNat - p.1.2) ⟨(x, 0), by omega, hm, by dsimp only; omega, rfl⟩ (lm [(0, 0), (1, 1)]) fun ⟨⟨y, n⟩, hn, hmy, hsy, hrun⟩ => ?_
 dsimp only at hn hmy hsy hrun
 unfold hRunS
 dsimp only
 refine go ?_
 have hhy := height_le_size y
 refine call (T := TSize _) ⟨y, by rw [encT_is], by omega, by omega, rfl⟩ ?_
 refine go ?_
 rw [← hrun, run_is]
 by_cases q3 : (size y : Int) > 5000
 ·rw [if_pos (show 5000 < size y by omega), encT_nothing]
  simp only [q3, decide_true]
  refine go ?_
  trivial
 rw [if_neg (show ¬ 5000 < size y by omega)]
 simp only [q3, decide_false]
 refine go ?_
 have hmf : may y Pure.Hd.freeT = true := Pure.CoreMono.may_mono y 0 _ (by decide) hmy
 refine call (T := TStep) ⟨y, by rw [encT_is], hmf, by omega, rfl⟩ ?_
 rw [encT_is]
 refine go ?_
 by_cases q4 : (hstep y).2 = 0
 ·rw [if_pos q4]
  simp only [show ((hstep y).2 == 0) = true by simpa using q4]
  refine go ?_
  rw [encT_is]
 rw [if_neg q4]
 simp only [show ((hstep y).2 == 0) = false by simpa using q4]
 refine go ?_
 by_cases q5 : n = fuel.toNat
 ·rw [if_pos (by omega), encT_nothing]
  simp only [show ((n : Int) == fuel) = true by simp; omega]
  refine go ?_
  trivial
 rw [if_neg (by omega)] at *
 simp only [show ((n : Int) == fuel) = false by simp; omega]
 refine go ?_
 rw [nxt (by omega)]
 have hq := size_step _ y (Nat.le_refl _)
 have hsq : size y * size y ≤ 5000 * 5000 := Nat.mul_le_mul (by omega) (by omega)
 refine ⟨⟨((hstep y).1, n + 1), by dsimp only; omega, Pure.CoreStep.step_may _ y 0 (Nat.le_refl _) (Int.le_refl 0) hmy, by dsimp only; omega, ?_⟩, lm [(0, 0), (1, 1)], by dsimp only; omega⟩
 dsimp only
 rw [show fuel.toNat - n - 1 = fuel.toNat - (n + 1) by omega, show fuel.toNat - n = fuel.toNat - (n + 1) + 1 by omega]
 rfl
end Go.Proofs.YtnjmilelifmfpaaGreatDoor.Ev

namespace Go.Proofs.YtnjmilelifmfpaaGreatDoor.Ev
open Go Go.RowKit
open HCore (wt wts may same height heights size sizes each bare oper)
open Go.Proofs.YtnjmilelifmfpaaGreatDoor.Pure.CoreStep
set_option linter.unusedSimpArgs false
set_option linter.unusedVariables false
theorem operX_is {s : ByteArray} (h : HCore.oper s = true) : s = ⟨#[43]⟩ ∨ s = ⟨#[45]⟩ ∨ s = ⟨#[42]⟩ ∨ s = ⟨#[47]⟩ ∨ s = ⟨#[60]⟩ ∨ s = ⟨#[61, 61]⟩ := by
 unfold HCore.oper at h
 simpa only [List.contains_iff_mem, List.mem_cons, List.not_mem_nil, or_false, bl_is] using h
theorem con16 {s : ByteArray} (h : HCore.con s = true) : s.size ≤ 16 := by
 unfold HCore.con at h
 split at h
 ·rename_i t ht
  simp only [Bool.and_eq_true, decide_eq_true_eq] at h
  have hs : s.size = t.text.length := by rw [h.2]; exact (Array.length_toList (xs := s.data)).symm
  unfold HLex.lex at ht
  rw [HLex.lexFrom] at ht
  (try simp only at ht)
  split at ht
  ·cases ht
  split at ht
  ·cases ht
  rename_i k tx n hf
  split at ht
  ·simp only [Except.ok.injEq, List.cons.injEq] at ht
   rw [← ht.1] at h hs
   simp only at h hs
   have hk := h.1
   unfold HLex.first at hf
   simp only at hf
   split at hf
   ·split at hf
    ·simp only [Except.ok.injEq, Prod.mk.injEq] at hf; omega
    ·cases hf
   ·rename_i hw
    split at hf
    ·rename_i k2 n2 hn
     simp only [Except.ok.injEq, Prod.mk.injEq] at hf
     obtain ⟨e1, e2, e3⟩ := hf
     rw [hs, ← e2]
     generalize List.takeWhile HLex.wordly (List.dropWhile HLex.blank s.data.toList) = q at *
     unfold HLex.named at hn
     by_cases hd : ((q.head?.map HLex.digit).getD false) = true
     ·rw [if_pos hd] at hn
      by_cases h1 : (q.any fun c => decide (57 < c.toNat)) = true
      ·rw [if_pos h1] at hn; cases hn
      rw [if_neg h1] at hn
      split at hn
      ·cases hn
      ·simp only [Except.ok.injEq, Prod.mk.injEq] at hn; omega
     rw [if_neg hd] at hn
     by_cases h1 : 16 < q.length
     ·rw [if_pos h1] at hn; cases hn
     omega
    ·cases hf
  ·cases ht
 ·cases h
theorem mxs_le {l : List Tm} (h : ∀ y ∈ l, mx y ≤ 16) : mxs l ≤ 16 := by
 induction l with
 | nil => exact Nat.zero_le _
 | cons y l ih =>
  simp only [mxs]
  have := h y (by simp)
  have := ih fun z hz => h z (by simp [hz])
  omega
theorem empty16 {s : ByteArray} (h : s.data.toList = []) : s.size ≤ 16 := by
 have : s.size = s.data.toList.length := (Array.length_toList (xs := s.data)).symm
 rw [this, h]; exact Nat.zero_le _
theorem alt_con : ∀ {l : List Tm} {a : Int} {p : List Tm}, HCore.alts l a p = true → ∀ x ∈ l, HCore.con x.f2 = true
 | [], _, _, _, _, hx => by cases hx
 | ⟨k, n, s, l⟩ :: r, a, p, h, x, hx => by
  simp only [HCore.alts, Bool.and_eq_true, decide_eq_true_eq] at h
  rcases List.mem_cons.1 hx with rfl | hx
  ·exact h.1.1.1.1.1.1.2
  ·exact alt_con h.2 x hx
theorem mx_may : ∀ (n : Nat) (x : Tm) (a : Int), height x ≤ n → may x a = true → mx x ≤ 16
 | 0, x, a, hn, _ => by rw [height_of] at hn; omega
 | n + 1, ⟨k, m, s, l⟩, a, hn, hm => by
  have hp : ∀ y ∈ l, height y ≤ n := fun y hy => by have h1 := height_mem hy; have h2 : height (⟨k, m, s, l⟩ : Tm) = heights l + 1 := rfl; omega
  have fin : s.size ≤ 16 → (∀ y ∈ l, mx y ≤ 16) → mx (⟨k, m, s, l⟩ : Tm) ≤ 16 := fun h1 h2 => by
   have := mxs_le h2
   simp only [mx]; omega
  have hk := kinds hm
  simp only at hk
  rcases hk with h | h | h | h | h | h | h | h
  ·subst h
   have := hm
   rw [Pure.CoreTurn.may_var _ _ rfl] at this
   simp only [Bool.and_eq_true, decide_eq_true_eq] at this
   refine fin (empty16 this.1.1.2) fun y hy => ?_
   rw [List.eq_nil_of_length_eq_zero this.1.1.1] at hy; simp at hy
  ·subst h
   have := hm
   rw [may_is] at this
   simp at this
   refine fin (empty16 (by simpa using this.1.2)) fun y hy => ?_
   rw [this.1.1] at hy; simp at hy
  ·subst h
   have := hm
   rw [may_is] at this
   simp [bare] at this
   refine fin (empty16 (by simpa using this.1.2.1)) fun y hy => ?_
   rw [this.1.1] at hy; simp at hy
  ·subst h
   have := hm
   rw [may_is] at this
   simp [bare] at this
   obtain ⟨y, hy, hmy⟩ := lam_is hm rfl
   simp only at hy
   refine fin (empty16 (by simpa using this.1.1.2.1)) fun z hz => ?_
   have hzn := hp z hz
   rw [hy] at hz
   rw [List.mem_singleton.1 hz] at hzn ⊢
   exact mx_may n y _ hzn hmy
  ·subst h
   obtain ⟨y, z, hl, hy, hz, hb⟩ := app_is hm
   simp [bare] at hb
   refine fin (empty16 (by simpa using hb.1)) fun u hu => ?_
   have hun := hp u hu
   rw [hl] at hu
   simp at hu
   rcases hu with rfl|rfl
   ·exact mx_may n _ _ hun hy
   ·exact mx_may n _ _ hun hz
  ·subst h
   obtain ⟨y, z, hl, hy, hz, _, hb⟩ := op_is hm
   have h16 : s.size ≤ 16 := by rcases operX_is hb with rfl|rfl|rfl|rfl|rfl|rfl <;> decide
   refine fin h16 fun u hu => ?_
   have hun := hp u hu
   rw [hl] at hu
   simp at hu
   rcases hu with rfl|rfl
   ·exact mx_may n _ _ hun hy
   ·exact mx_may n _ _ hun hz
  ·subst h
   have hc := con_is hm rfl
   exact fin (con16 hc.2.2.1) fun u hu => mx_may n _ _ (hp u hu) (each_get hc.2.2.2 hu)
  ·subst h
   obtain ⟨y, r, hl, hy, hr, _, _, hb⟩ := case_is hm
   simp [bare] at hb
   refine fin (empty16 (by simpa using hb.1)) fun u hu => ?_
   have hun := hp u hu
   rw [hl] at hu
   rcases List.mem_cons.1 hu with rfl | hu
   ·exact mx_may n _ _ hun hy
   obtain ⟨h60, h61, h62, h63, h64⟩ := alt_get hr u hu
   have hcu := alt_con hr u hu
   obtain ⟨q, hq⟩ := hd_one h63
   rw [hq] at h64
   have hmq := each_get h64 (List.mem_singleton_self q)
   have hqh : height q ≤ n := by rw [height_of, hq] at hun; simp only [heights] at hun; omega
   have := mx_may n q _ hqh hmq
   have := con16 hcu
   rw [mx_of, hq]
   simp only [mxs]; omega
theorem wt_small {x : Tm} (h : size x ≤ 5000) (hm : mx x ≤ 16) : wt x ≤ 100000 := by
 have h1 := wt_le_mx x
 have h2 : size x * (mx x + 1) ≤ 5000 * 17 := Nat.mul_le_mul h (by omega)
 omega
def Fits9 (x : Tm) : Prop := mx x ≤ 140737488355328 ∧ wd x ≤ 140737488355328
end Go.Proofs.YtnjmilelifmfpaaGreatDoor.Ev

namespace Go.Proofs.YtnjmilelifmfpaaGreatDoor.Ev
open Go Go.RowKit
open HCore (wt wts may same height heights size sizes)
open Go.Proofs.YtnjmilelifmfpaaGreatDoor.HSub (hstep nothing)
open Pure.CoreRun (run_is size_step steps run_tells run_ends)
set_option linter.unusedSimpArgs false
set_option linter.unusedVariables false
abbrev TFixed : Spec := fun args out => args = [] ∧ out = .ret (.s (.bool true))
abbrev E9 : List (FuncId × Spec) := [(11, TFixed), (9, TSmall), (10, TDepth 1000000), (17, TRMay), (14, TRun), (12, THStep), (16, TSame 10000000)]
theorem ok9 {J : JW} (hJ : JOk J) (hf : Con Tryz.prog J 11 TFixed) : Ok Tryz.prog J (env E9) := ok_cons hf (ok_cons (c_small hJ) (ok_cons (c_depth hJ _) (ok_cons (c_rmay hJ) (ok_cons (c_hrun hJ) (ok_cons (c_hstep hJ) (ok_cons (c_same hJ _) ok_nil))))))
theorem fuel_ways (x : Tm) (f : Nat) (hf : f ≤ 60) :
  (∃ (y : Tm) (m : Nat), HSub.run 61 x 0 60 = (y, (m : Int), 0) ∧ m ≤ f ∧ HSub.run (f + 1) x 0 f = (y, (m : Int), 0) ∧ size y ≤ 5000) ∨
  (((HSub.run 61 x 0 60).2.2 ≠ 0 ∨ (f : Int) < (HSub.run 61 x 0 60).2.1) ∧ ∃ m : Nat, m ≤ f ∧ (HSub.run (f + 1) x 0 f = (nothing, (m : Int), 90) ∧ m = f ∨ HSub.run (f + 1) x 0 f = (nothing, (m : Int), 91))) := by
 obtain ⟨m1, a1, a2, a3, a4⟩ := run_tells 61 x 0 60 (by omega)
 obtain ⟨m2, b1, b2, b3, b4⟩ := run_tells (f + 1) x 0 f (by omega)
 simp only [Int.zero_add] at a2 a4 b2 b4
 rcases a4 with ⟨r1, z1, s1⟩ | ⟨r1, e1, z1, s1⟩ | ⟨r1, s1⟩
 ·by_cases h : m1 ≤ f
  ·have := run_ends m1 (f + 1) x 0 f h (by omega) a3 z1 s1
   rw [Int.zero_add] at this
   exact .inl ⟨_, m1, r1, h, this, s1⟩
  ·refine .inr ⟨.inr (by rw [a2]; omega), m2, b1, ?_⟩
   rcases b4 with ⟨r2, z2, s2⟩ | ⟨r2, e2, z2, s2⟩ | ⟨r2, s2⟩
   ·exact absurd z2 (a3 m2 (by omega)).1
   ·exact .inl ⟨r2, e2⟩
   ·have := (a3 m2 (by omega)).2; omega
 ·refine .inr ⟨.inl (by rw [r1]; simp), m2, b1, ?_⟩
  rcases b4 with ⟨r2, z2, s2⟩ | ⟨r2, e2, z2, s2⟩ | ⟨r2, s2⟩
  ·by_cases h : m2 < m1
   ·exact absurd z2 (a3 m2 h).1
   ·have : m2 = m1 := by omega
    subst this; exact absurd z2 z1
  ·exact .inl ⟨r2, e2⟩
  ·by_cases h : m2 < m1
   ·have := (a3 m2 h).2; omega
   ·have : m2 = m1 := by omega
    subst this; omega
 ·refine .inr ⟨.inl (by rw [r1]; simp), m2, b1, ?_⟩
  rcases b4 with ⟨r2, z2, s2⟩ | ⟨r2, e2, z2, s2⟩ | ⟨r2, s2⟩
  ·exfalso
   rcases Nat.lt_trichotomy m2 m1 with h | h | h
   ·exact absurd z2 (a3 m2 h).1
   ·subst h; omega
   ·have := (b3 m1 h).2; omega
  ·exact .inl ⟨r2, e2⟩
  ·exact .inr r2
abbrev TLFuel : Spec := fun args out => ∃ (x : Tm) (fuel : Int), args = [.agg (encT x), .s (.int .i64 fuel)] ∧ Fits9 x ∧ out = .ret (.s (.bool true))
set_option maxHeartbeats 4000000 in
theorem c_lfuel {J : JW} (hJ : JOk J) (hf : Con Tryz.prog J 11 TFixed) : Con Tryz.prog J 5 TLFuel := by
 obtain ⟨code, h1, h2, h3, h4⟩ := k5
 refine con (ok9 hJ hf) hJ h1 h2 h3 h4 fun args out h => ?_
 obtain ⟨x, fuel, rfl, ⟨hxm, hxd⟩, rfl⟩ := h
 have s2 := height_le_size x
 refine ⟨rfl, by rw [Tryz.ntmps5]; simp, ?_⟩
 rw [encT_is x]
 unfold c5
 refine go ?_
 refine call (T := TFixed) ⟨rfl, rfl⟩ ?_
 refine go ?_
 refine call (T := TSmall) ⟨x, 200, by rw [encT_is], by omega, by omega, by omega, rfl⟩ ?_
 by_cases q1 : 0 ≤ few x 200 600
 rotate_left
 ·simp only [decide_eq_false q1]
  refine go ?_
  refine call (T := TFixed) ⟨rfl, rfl⟩ ?_
  refine go ?_
  trivial
 obtain ⟨g1, g2⟩ := small_ge q1
 simp only [decide_eq_true q1]
 refine go ?_
 refine call (T := TDepth _) ⟨x, by rw [encT_is], by omega, by omega, rfl⟩ ?_
 refine go ?_
 by_cases q2 : (height x : Int) > 300
 ·simp only [q2, decide_true]
  refine go ?_
  refine call (T := TFixed) ⟨rfl, rfl⟩ ?_
  refine go ?_
  trivial
 simp only [q2, decide_false]
 refine go ?_
 refine call (T := TRMay) ⟨x, 0, by rw [encT_is], by omega, by omega, by omega, by omega, rfl⟩ ?_
 cases hm : may x 0 with
 | false =>
  refine go ?_
  refine call (T := TFixed) ⟨rfl, rfl⟩ ?_
  refine go ?_
  trivial
 | true =>
 have hwx := wt_small (x := x) (by omega) (mx_may _ x 0 (Nat.le_refl _) hm)
 refine go ?_
 by_cases q3 : fuel < 0
 ·simp only [q3, decide_true]
  refine go ?_
  refine call (T := TFixed) ⟨rfl, rfl⟩ ?_
  refine go ?_
  trivial
 simp only [q3, decide_false]
 refine go ?_
 by_cases q4 : fuel > 60
 ·simp only [q4, decide_true]
  refine go ?_
  refine call (T := TFixed) ⟨rfl, rfl⟩ ?_
  refine go ?_
  trivial
 simp only [q4, decide_false]
 refine go ?_
 have e1 : runF x 60 = HSub.run 61 x 0 60 := if_pos ⟨hm, by decide, by decide⟩
 have e2 : runF x fuel = HSub.run (fuel.toNat + 1) x 0 fuel.toNat := if_pos ⟨hm, by omega, by omega⟩
 refine call (T := TRun) ⟨x, 60, by rw [encT_is], by omega, by omega, rfl⟩ ?_
 rw [e1]
 have hways := fuel_ways x fuel.toNat (by omega)
 generalize HSub.run 61 x 0 60 = R1 at hways ⊢
 obtain ⟨ya, n, e⟩ := R1
 dsimp only at hways ⊢
 rw [encT_is ya]
 refine go ?_
 refine call (T := TRun) ⟨x, fuel, by rw [encT_is], by omega, by omega, rfl⟩ ?_
 rw [e2]
 rcases hways with ⟨y, m, r1, hmf, r2, hsy⟩ | ⟨hne, m, hmf, hr⟩
 ·cases r1
  rw [r2, encT_is ya]
  refine go ?_
  simp only [show fuel ≥ (m : Int) by omega, decide_true]
  refine go ?_
  have := height_le_size ya
  refine call (T := TSame _) ⟨ya, ya, by rw [encT_is], by omega, by omega, rfl⟩ ?_
  rw [Pure.R6P.same_refl]
  refine go ?_
  trivial
 ·generalize HSub.run (fuel.toNat + 1) x 0 fuel.toNat = R2 at hr ⊢
  obtain ⟨yb, n2, ee⟩ := R2
  dsimp only at hr ⊢
  have hb : yb = nothing ∧ n2 = (m : Int) ∧ (ee = 90 ∧ (m : Int) = fuel ∨ ee = 91) := by
   rcases hr with ⟨r, e⟩ | r
   ·cases r; exact ⟨rfl, rfl, .inl ⟨rfl, by omega⟩⟩
   ·cases r; exact ⟨rfl, rfl, .inr rfl⟩
  obtain ⟨rfl, rfl, hee⟩ := hb
  have hle : (m : Int) ≤ fuel := by omega
  have hsame : same nothing nothing = true := Pure.R6P.same_refl _
  rw [encT_nothing]
  by_cases q5 : e = 0
  ·have q6 : ¬ fuel ≥ n := by rcases hne with h | h <;> omega
   subst q5
   refine go ?_
   simp only [q6, decide_false]
   rcases hee with ⟨rfl, hmf'⟩|rfl
   ·refine go ?_
    simp only [hle, decide_true]
    refine go ?_
    refine call (T := TSame _) ⟨nothing, nothing, rfl, by decide, by decide, rfl⟩ ?_
    rw [hsame]
    refine go ?_
    simp only [hmf', decide_true]
    refine go ?_
    trivial
   ·refine go ?_
    simp only [hle, decide_true]
    refine go ?_
    refine call (T := TSame _) ⟨nothing, nothing, rfl, by decide, by decide, rfl⟩ ?_
    rw [hsame]
    refine go ?_
    trivial
  ·have q7 : (e == 0) = false := by simp [q5]
   refine go ?_
   simp only [q7]
   rcases hee with ⟨rfl, hmf'⟩|rfl
   ·refine go ?_
    simp only [hle, decide_true]
    refine go ?_
    refine call (T := TSame _) ⟨nothing, nothing, rfl, by decide, by decide, rfl⟩ ?_
    rw [hsame]
    refine go ?_
    simp only [hmf', decide_true]
    refine go ?_
    trivial
   ·refine go ?_
    simp only [hle, decide_true]
    refine go ?_
    refine call (T := TSame _) ⟨nothing, nothing, rfl, by decide, by decide, rfl⟩ ?_
    rw [hsame]
    refine go ?_
    trivial
end Go.Proofs.YtnjmilelifmfpaaGreatDoor.Ev

namespace Go.Proofs.YtnjmilelifmfpaaGreatDoor.Ev
open Go Go.RowKit
set_option linter.unusedSimpArgs false
set_option linter.unusedVariables false
inductive Tr where
  | e
  | n (l : Tr) (v : AV) (r : Tr)
noncomputable def cnd {α : Type} (b : Bool) (x y : α) : α := Bool.rec (motive := fun _ => α) y x b
theorem cnd_dec {α : Type} {p : Prop} [Decidable p] {x y : α} : cnd (decide p) x y = if p then x else y := by by_cases h : p <;> simp [cnd, h]
noncomputable def trGet (t : Tr) : Nat → AV :=
  Tr.rec (motive := fun _ => Nat → AV) (fun _ => .any) (fun _ v _ gl gr k => cnd (Nat.beq k 0) v (cnd (Nat.beq (Nat.mod (Nat.sub k 1) 2) 0) (gl (Nat.div (Nat.sub k 1) 2)) (gr (Nat.div (Nat.sub k 1) 2)))) t
noncomputable def trNew (v : AV) (f : Nat) : Nat → Tr :=
  Nat.rec (motive := fun _ => Nat → Tr) (fun _ => .e) (fun _ g k => cnd (Nat.beq k 0) (.n .e v .e) (cnd (Nat.beq (Nat.mod (Nat.sub k 1) 2) 0) (.n (g (Nat.div (Nat.sub k 1) 2)) .any .e) (.n .e .any (g (Nat.div (Nat.sub k 1) 2))))) f
noncomputable def trSet (t : Tr) (v : AV) : Nat → Tr :=
  Tr.rec (motive := fun _ => Nat → Tr) (fun k => trNew v (Nat.succ k) k) (fun l u r gl gr k => cnd (Nat.beq k 0) (.n l v r) (cnd (Nat.beq (Nat.mod (Nat.sub k 1) 2) 0) (.n (gl (Nat.div (Nat.sub k 1) 2)) u r) (.n l u (gr (Nat.div (Nat.sub k 1) 2))))) t
theorem beq_ne {i j : Nat} (h : i ≠ j) : Nat.beq i j = false := by
  cases e : Nat.beq i j with
  | false => rfl
  | true => exact absurd (Nat.eq_of_beq_eq_true e) h
theorem beq_is {i j : Nat} : Nat.beq i j = decide (i = j) := by
  by_cases h : i = j
  · subst h; simp
  · rw [beq_ne h]; simp [h]
theorem trGet_n {l r : Tr} {v : AV} {k : Nat} : trGet (.n l v r) k = if k = 0 then v else if (k - 1) % 2 = 0 then trGet l ((k - 1) / 2) else trGet r ((k - 1) / 2) := by
  show cnd (Nat.beq k 0) v (cnd (Nat.beq ((k - 1) % 2) 0) (trGet l ((k - 1) / 2)) (trGet r ((k - 1) / 2))) = _
  rw [beq_is, beq_is, cnd_dec, cnd_dec]
theorem trSet_n {l r : Tr} {u v : AV} {k : Nat} : trSet (.n l u r) v k = if k = 0 then .n l v r else if (k - 1) % 2 = 0 then .n (trSet l v ((k - 1) / 2)) u r else .n l u (trSet r v ((k - 1) / 2)) := by
  show cnd (Nat.beq k 0) (Tr.n l v r) (cnd (Nat.beq ((k - 1) % 2) 0) (Tr.n (trSet l v ((k - 1) / 2)) u r) (Tr.n l u (trSet r v ((k - 1) / 2)))) = _
  rw [beq_is, beq_is, cnd_dec, cnd_dec]
theorem trNew_get {v : AV} : ∀ (f k j : Nat), k < f → trGet (trNew v f k) j = if j = k then v else .any
  | 0, k, j, h => by omega
  | f + 1, k, j, h => by
    have e : trNew v (f + 1) k = if k = 0 then .n .e v .e else if (k - 1) % 2 = 0 then .n (trNew v f ((k - 1) / 2)) .any .e else .n .e .any (trNew v f ((k - 1) / 2)) := by
      show cnd (Nat.beq k 0) (Tr.n .e v .e) (cnd (Nat.beq ((k - 1) % 2) 0) (Tr.n (trNew v f ((k - 1) / 2)) .any .e) (Tr.n .e .any (trNew v f ((k - 1) / 2)))) = _
      rw [beq_is, beq_is, cnd_dec, cnd_dec]
    have ge : ∀ j, trGet .e j = .any := fun _ => rfl
    rw [e]
    by_cases h0 : k = 0
    · subst h0
      rw [if_pos rfl, trGet_n]
      by_cases hj : j = 0
      · simp [hj]
      · simp [hj, ge]
    · have ih := fun j => trNew_get (v := v) f ((k - 1) / 2) j (by omega)
      rw [if_neg h0]
      split
      · rename_i hk
        rw [trGet_n, ih, ge]
        by_cases hj : j = 0
        · simp [hj, Ne.symm h0]
        · by_cases hj2 : (j - 1) % 2 = 0
          · simp only [hj, hj2, if_true, if_false]
            by_cases hjk : j = k
            · subst hjk; simp
            · rw [if_neg (by omega), if_neg hjk]
          · simp only [hj, hj2, if_false]
            rw [if_neg (by omega)]
      · rename_i hk
        rw [trGet_n, ih, ge]
        by_cases hj : j = 0
        · simp [hj, Ne.symm h0]
        · by_cases hj2 : (j - 1) % 2 = 0
          · simp only [hj, hj2, if_true, if_false]
            rw [if_neg (by omega)]
          · simp only [hj, hj2, if_false]
            by_cases hjk : j = k
            · subst hjk; simp
            · rw [if_neg (by omega), if_neg hjk]
theorem trGet_set {v : AV} : ∀ (t : Tr) (k j : Nat), trGet (trSet t v k) j = if j = k then v else trGet t j
  | .e, k, j => trNew_get (k + 1) k j (Nat.lt_succ_self k)
  | .n l u r, k, j => by
    rw [trSet_n]
    by_cases h0 : k = 0
    · subst h0
      rw [if_pos rfl, trGet_n, trGet_n]
      by_cases hj : j = 0 <;> simp [hj]
    · rw [if_neg h0]
      split
      · rename_i hk
        rw [trGet_n, trGet_n, trGet_set l]
        by_cases hj : j = 0
        · simp [hj, Ne.symm h0]
        · by_cases hj2 : (j - 1) % 2 = 0
          · simp only [hj, hj2, if_true, if_false]
            by_cases hjk : j = k
            · subst hjk; simp
            · rw [if_neg (by omega), if_neg hjk]
          · simp only [hj, hj2, if_false]
            rw [if_neg (by omega)]
      · rename_i hk
        rw [trGet_n, trGet_n, trGet_set r]
        by_cases hj : j = 0
        · simp [hj, Ne.symm h0]
        · by_cases hj2 : (j - 1) % 2 = 0
          · simp only [hj, hj2, if_true, if_false]
            rw [if_neg (by omega)]
          · simp only [hj, hj2, if_false]
            by_cases hjk : j = k
            · subst hjk; simp
            · rw [if_neg (by omega), if_neg hjk]
noncomputable def getO {α : Type} (l : List (Nat × Option α)) : Nat → Option α :=
  List.rec (motive := fun _ => Nat → Option α) (fun _ => none) (fun p _ g i => cnd (Nat.beq p.1 i) p.2 (g i)) l
theorem getO_cons {α : Type} {l : List (Nat × Option α)} {i : Nat} {v : Option α} : getO ((i, v) :: l) = upd (getO l) i v := by
  funext j
  show cnd (Nat.beq i j) v (getO l j) = _
  unfold upd
  rw [beq_is, cnd_dec]
  by_cases h : j = i
  · subst h; simp
  · simp [h, Ne.symm h]
structure IS where
  t : Tr
  bx : List (Nat × Option (List AV))
  gr : List (Nat × Option GR)
  nx : Nat
noncomputable def IS.ast (s : IS) : AS := ⟨trGet s.t, getO s.bx, getO s.gr, s.nx⟩
noncomputable def IS.put (s : IS) : Option Nat → AV → IS
  | some d, v => ⟨trSet s.t v d, s.bx, s.gr, s.nx⟩
  | none, _ => s
theorem IS.ast_put (s : IS) (d : Option Nat) (v : AV) : (s.put d v).ast = s.ast.put d v := by
  cases d with
  | none => rfl
  | some d => simp only [IS.put, IS.ast, AS.put]; congr 1; funext i; exact trGet_set _ _ _
noncomputable def shutL (l : List (Nat × Option GR)) : List Nat → List (Nat × Option GR)
  | [] => l
  | k :: ks => shutL (match getO l k with | some r => (k, some r.shut) :: l | none => l) ks
theorem shutL_as : ∀ (ks : List Nat) (l : List (Nat × Option GR)), getO (shutL l ks) = shut (getO l) ks
  | [], l => shut_nil.symm
  | k :: ks, l => by
    rw [shut_one]
    simp only [shutL]
    rw [shutL_as ks]
    congr 1
    cases h : getO l k with
    | none => rfl
    | some r => exact getO_cons
def killL (l : List (Nat × Option GR)) : Option Nat → List (Nat × Option GR)
  | some k => (k, none) :: l
  | none => l
theorem killL_as (l : List (Nat × Option GR)) (k : Option Nat) : getO (killL l k) = killT (getO l) k := by
  cases k with
  | none => rfl
  | some k => exact getO_cons
def ileF : Int → Int → Bool
  | .ofNat a, .ofNat b => Nat.ble a b
  | .ofNat _, .negSucc _ => false
  | .negSucc _, .ofNat _ => true
  | .negSucc a, .negSucc b => Nat.ble b a
theorem ileF_is (a b : Int) : ileF a b = decide (a ≤ b) := by
  cases a <;> cases b <;> simp only [ileF] <;> (try rw [Bool.eq_iff_iff]) <;> simp only [decide_eq_true_eq, Nat.ble_eq, Int.ofNat_eq_natCast, Bool.false_eq_true, true_iff, false_iff] <;> omega
def ieqF : Int → Int → Bool
  | .ofNat a, .ofNat b => Nat.beq a b
  | .negSucc a, .negSucc b => Nat.beq a b
  | _, _ => false
theorem ieqF_is (a b : Int) : ieqF a b = (a == b) := by
  cases a <;> cases b <;> simp only [ieqF, beq_is] <;> rw [Bool.eq_iff_iff] <;> simp only [decide_eq_true_eq, beq_iff_eq, Int.ofNat_eq_natCast, Bool.false_eq_true, false_iff] <;> omega
def wrapF (n : Int) : Int := match n with
  | .ofNat a => match Nat.ble a 9223372036854775807 with | true => n | false => IntKind.i64.wrap n
  | .negSucc a => match Nat.ble a 9223372036854775807 with | true => n | false => IntKind.i64.wrap n
theorem wrap_in {n : Int} (h0 : -9223372036854775808 ≤ n) (h1 : n < 9223372036854775808) : IntKind.i64.wrap n = n := by
  rw [IntKind.wrap_i64]; omega
theorem wrapF_is (n : Int) : wrapF n = IntKind.i64.wrap n := by
  unfold wrapF
  split
  · rename_i a
    split
    · rename_i h; exact (wrap_in (by simp only [Int.ofNat_eq_natCast]; omega) (by have := Nat.le_of_ble_eq_true h; simp only [Int.ofNat_eq_natCast]; omega)).symm
    · rfl
  · rename_i a
    split
    · rename_i h; exact (wrap_in (by have := Nat.le_of_ble_eq_true h; omega) (by omega)).symm
    · rfl
structure Inf where
  str : List Nat
  int : List (Nat × IntKind)
noncomputable def hasN (l : List Nat) : Nat → Bool := List.rec (motive := fun _ => Nat → Bool) (fun _ => false) (fun a _ g i => cnd (Nat.beq a i) true (g i)) l
noncomputable def kindN (l : List (Nat × IntKind)) : Nat → Option IntKind := List.rec (motive := fun _ => Nat → Option IntKind) (fun _ => none) (fun a _ g i => cnd (Nat.beq a.1 i) (some a.2) (g i)) l
structure InfOk (P : Program) (inf : Inf) : Prop where
  str : ∀ t, hasN inf.str t = true → P.underlying t = some .string
  int : ∀ t k, kindN inf.int t = some k → P.underlying t = some (.int k)
noncomputable def scI (P : Program) (inf : Inf) (k : Sc) (xs : List Operand) (vs : List Value) : Option AV :=
  match k with
  | .bin op _ => match vs with
    | [.int .i64 a, .int .i64 b] => match op with
      | .add => some (.s (.int .i64 (wrapF (Int.add a b))))
      | .sub => some (.s (.int .i64 (wrapF (Int.sub a b))))
      | .lss => some (.s (.bool (!ileF b a)))
      | .leq => some (.s (.bool (ileF a b)))
      | .gtr => some (.s (.bool (!ileF a b)))
      | .geq => some (.s (.bool (ileF b a)))
      | .eql => some (.s (.bool (ieqF a b)))
      | .neq => some (.s (.bool (!ieqF a b)))
      | _ => scv P k xs vs
    | [.int .u8 a, .int .u8 b] => match op with
      | .leq => some (.s (.bool (ileF a b)))
      | .geq => some (.s (.bool (ileF b a)))
      | .eql => some (.s (.bool (ieqF a b)))
      | .neq => some (.s (.bool (!ieqF a b)))
      | _ => scv P k xs vs
    | [.string s, .string u] => match op with
      | .eql => some (.s (.bool (s.data.toList == u.data.toList)))
      | .neq => some (.s (.bool (!(s.data.toList == u.data.toList))))
      | .add => match Nat.ble (s.data.toList.length + u.data.toList.length) 9223372036854775807 with
        | true => some (.s (.string ⟨(s.data.toList ++ u.data.toList).toArray⟩))
        | false => none
      | _ => scv P k xs vs
    | _ => scv P k xs vs
  | .un .not => match vs with | [.bool b] => some (.s (.bool (!b))) | _ => scv P k xs vs
  | .ix t => match hasN inf.str t, vs with
    | true, [.string s, .int _ (.ofNat i)] => match s.data.toList[i]? with | some x => some (.s (.int .u8 (.ofNat x.toNat))) | none => none
    | _, _ => scv P k xs vs
  | .sl t true true => match hasN inf.str t, vs with
    | true, [.string s, .int _ (.ofNat l), .int _ (.ofNat h)] => match Nat.ble l h, Nat.ble h s.data.toList.length with | true, true => some (.s (.string ⟨((s.data.toList.drop l).take (h - l)).toArray⟩)) | _, _ => none
    | _, _ => scv P k xs vs
  | .sl t true false => match hasN inf.str t, vs with
    | true, [.string s, .int _ (.ofNat l)] => match Nat.ble l s.data.toList.length with | true => some (.s (.string ⟨(s.data.toList.drop l).toArray⟩)) | false => none
    | _, _ => scv P k xs vs
  | .bi .len [t] _ => match hasN inf.str t, vs with
    | true, [.string s] => some (.s (.int .i64 (.ofNat s.data.toList.length)))
    | _, _ => scv P k xs vs
  | .cv a b => match kindN inf.int a, kindN inf.int b, vs with
    | some _, some k', [.int _ i] => some (.s (.int k' (k'.wrap i)))
    | _, _, _ => scv P k xs vs
  | _ => scv P k xs vs
theorem list_beq {s u : ByteArray} : (s.data.toList == u.data.toList) = decide (s = u) := by
  rw [← ByteArray.toList_eq, ← ByteArray.toList_eq]; exact eq_toList
theorem ba_ext {s u : ByteArray} (h : s.data.toList = u.data.toList) : s = u := by
  cases s; cases u; simp only [ByteArray.mk.injEq]; exact Array.toList_inj.1 h
theorem scI_is {P : Program} {inf : Inf} (hi : InfOk P inf) {k : Sc} {xs : List Operand} {vs : List Value} {r : AV} (h : scI P inf k xs vs = some r) (hx : vs.length = xs.length) : scv P k xs vs = some r := by
  have lt : ∀ a b : Int, (!ileF b a) = decide (a < b) := fun a b => by rw [ileF_is, Bool.eq_iff_iff]; simp
  unfold scI at h
  split at h
  · rename_i op t
    split at h
    · match xs, hx with
      | [x, y], _ =>
        split at h <;> first
          | (rw [wrapF_is] at h; exact h)
          | (rw [lt] at h; exact h)
          | (rw [ileF_is] at h; exact h)
          | (rw [ieqF_is] at h; exact h)
          | exact h
    · match xs, hx with
      | [x, y], _ =>
        split at h <;> first
          | (rw [ileF_is] at h; exact h)
          | (rw [ieqF_is] at h; exact h)
          | exact h
    · rename_i s u
      match xs, hx with
      | [x, y], _ =>
        split at h
        · rw [list_beq] at h; rw [s_eql]; exact h
        · rw [list_beq] at h; rw [s_neq]; exact h
        · split at h
          · rename_i hle
            cases h
            have hle' := Nat.le_of_ble_eq_true hle
            rw [s_add (by simp only [Array.length_toList] at hle'; exact hle')]
            congr 3
          · cases h
        · exact h
    · exact h
  · split at h
    · exact h
    · exact h
  · rename_i t
    split at h
    · rename_i s kd i ht
      match xs, hx with
      | [x, y], _ =>
        split at h
        · rename_i u hu; rw [v_ix (hi.str _ ht) hu]; exact h
        · cases h
    · exact h
  · rename_i t
    split at h
    · rename_i s k1 l k2 hh ht
      match xs, hx with
      | [x, y, z], _ =>
        split at h
        · rename_i h1 h2
          rw [v_sl2 (hi.str _ ht) (Nat.le_of_ble_eq_true h1) (by have := Nat.le_of_ble_eq_true h2; simpa using this), ← h]
          congr 3
          exact ba_ext (by simp [List.extract_eq_take_drop])
        · cases h
    · exact h
  · rename_i t
    split at h
    · rename_i s k1 l ht
      match xs, hx with
      | [x, y], _ =>
        split at h
        · rename_i h1
          rw [v_sl1 (hi.str _ ht) (by have := Nat.le_of_ble_eq_true h1; simpa using this), ← h]
          congr 3
          exact ba_ext (by simp [List.extract_eq_take_drop]; exact List.take_of_length_le (by rw [List.length_drop, Array.length_toList]; exact Nat.le_refl _))
        · cases h
    · exact h
  · rename_i t u
    split at h
    · rename_i s ht
      rw [v_len (hi.str _ ht), ← h]
      simp
    · exact h
  · rename_i a b
    split at h
    · rename_i k1 k2 kd i h1 h2
      match xs, hx with
      | [x], _ => rw [v_cv (hi.int _ _ h1) (hi.int _ _ h2)]; exact h
    · exact h
  · exact h
inductive IR where
  | go (s : IS)
  | pan (v : AV)
def unagg : List AV → Option (List (List AV))
  | [] => some []
  | .agg cs :: l => (unagg l).map (cs :: ·)
  | _ => none
theorem unagg_is : ∀ {l : List AV} {css : List (List AV)}, unagg l = some css → l = css.map .agg
  | [], css, h => by simp only [unagg, Option.some.injEq] at h; subst h; rfl
  | x :: l, css, h => by
    unfold unagg at h
    split at h
    · rename_i heq; cases heq
    · rename_i cs l' heq
      cases heq
      simp only [Option.map_eq_some_iff] at h
      obtain ⟨c, hc, rfl⟩ := h
      rw [unagg_is hc]; rfl
    · cases h
def setL (bx : List (Nat × Option (List AV))) : List Nat → List (List AV) → List (Nat × Option (List AV))
  | h :: r, cs :: l => (h, some cs) :: setL bx r l
  | _, _ => bx
theorem setL_as (bx : List (Nat × Option (List AV))) : ∀ (hs : List Nat) (css : List (List AV)), getO (setL bx hs css) = setBx (getO bx) hs css
  | [], css => by cases css <;> rfl
  | _ :: _, [] => rfl
  | h :: r, cs :: l => by simp only [setL, setBx, getO_cons, setL_as bx r l]
noncomputable def ich (call : FuncId → List AV → Option AOut) (hn : Nat) (s : IS) (d : Option Nat) (f : FuncId) (args : List AV) (hs : List Nat) : Option IR :=
  match conts (getO s.bx) hs with
  | some css => match here (getO s.gr) (args.flatMap refs ++ css.flatten.flatMap refC), call f (argsH (getO s.gr) hs css args) with
    | true, some (.ret v) => match hs with
      | [] => some (.go ({ s with gr := shutL s.gr (args.flatMap refs ++ css.flatten.flatMap refC) }.put d v))
      | h :: r => match v with
        | .tup (u :: l) => match unagg l with
          | some c => match Nat.beq c.length (h :: r).length with
            | true => some (.go ({ s with bx := setL s.bx (h :: r) c, gr := shutL s.gr (args.flatMap refs ++ css.flatten.flatMap refC) }.put d u))
            | false => none
          | none => none
        | _ => none
    | true, some (.pan v) => match hs with
      | [] => (panV hn (getO s.bx) v).map .pan
      | h :: r => match v with
        | .tup (u :: l) => match unagg l with
          | some c => match Nat.beq c.length (h :: r).length with
            | true => (panV hn (getO (setL s.bx (h :: r) c)) u).map .pan
            | false => none
          | none => none
        | _ => none
    | _, _ => none
  | none => none
noncomputable def iop (P : Program) (inf : Inf) (hn : Nat) (call : FuncId → List AV → Option AOut) (id : Nat) (s : IS) (d : Option Nat) : AOp → Option IR
  | .box x => match cellsA (s.ast.ev x) with | some cs => some (.go ({ s with bx := (id, some cs) :: s.bx }.put d (.ptr id 0))) | none => none
  | .alloc z => some (.go ({ s with bx := (id, some (z.map .s)) :: s.bx }.put d (.ptr id 0)))
  | .st n p x => match s.ast.ev p with
    | .ptr b o => match getO s.bx b, cellsA (s.ast.ev x) with
      | some cs, some new => if new.length = n ∧ o + n ≤ cs.length then some (.go ({ s with bx := (b, some (put1 cs o new)) :: s.bx }.put d (.tup []))) else none
      | _, _ => none
    | .rptr k sz i o => match getO s.gr k, cellsA (strip (getO s.gr) (s.ast.ev x)), refs (s.ast.ev x) with
      | some r, some new, [] => match r.xs[i]?, r.live with
        | some cs, true => if r.sz = sz ∧ new.length = n ∧ o + n ≤ cs.length then some (.go ({ s with gr := (k, some { r with xs := r.xs.set i (put1 cs o new) }) :: s.gr }.put d (.tup []))) else none
        | _, _ => none
      | _, _, _ => none
    | _ => none
  | .bs e sz ps => match elemsOf (getO s.gr) sz (ps.map s.ast.ev), here (getO s.gr) ((ps.map s.ast.ev).flatMap refs) with
    | some xs, true => some (.go ({ s with gr := (id, some ⟨e, sz, xs, true⟩) :: shutL s.gr ((ps.map s.ast.ev).flatMap refs) }.put d (.ref id)))
    | _, _ => none
  | .ap e sz bytes x y => match growOf e sz (getO s.gr) (s.ast.ev x), rowOf (getO s.gr) (s.ast.ev y) with
    | some (k, xs), some ys => if (ys.all fun c => c.length == sz) = true ∧ xs.length + ys.length ≤ 4611686018427387904 ∧ (xs.length + ys.length) * bytes ≤ 140737488355328 then
        some (.go ({ s with gr := (id, some ⟨e, sz, xs ++ ys, true⟩) :: killL s.gr k }.put d (.ref id))) else none
    | _, _ => none
  | .call f xs => match call f (xs.map fun x => stripK (getO s.gr) (s.ast.ev x)), here (getO s.gr) ((xs.map s.ast.ev).flatMap refs) with
    | some (.ret v), true => some (.go ({ s with gr := shutL s.gr (lent v ((xs.map s.ast.ev).flatMap refs)) }.put d v))
    | some (.pan v), true => (panV hn (getO s.bx) v).map .pan
    | _, _ => none
  | .pan x => match s.ast.ev x with | .s (.iface t v) => (panV hn (getO s.bx) (.s (.iface t v))).map .pan | _ => none
  | .mks e sz bytes z x => match idxOf (s.ast.ev x) with
    | some n => if n ≤ 4611686018427387904 ∧ n * bytes ≤ 140737488355328 then some (.go ({ s with gr := (id, some ⟨e, sz, List.replicate n (z.map .s), true⟩) :: s.gr }.put d (.ref id))) else none
    | none => none
  | .callh x xs => match tgt (s.ast.ev x) with
    | some (f, ys, zs) => ich call hn s d f (ys ++ xs.map s.ast.ev ++ zs) (nub ((ys ++ xs.map s.ast.ev ++ zs).flatMap boxesOf))
    | none => none
  | .sc k xs => match scs (xs.map s.ast.ev) with
    | some vs => match scI P inf k xs vs with | some v => some (.go (s.put d v)) | none => none
    | none => none
  | o => match pv P s.ast.ev s.ast.bx s.ast.gr o with | some v => some (.go (s.put d v)) | none => none
theorem scs_len : ∀ {l : List AV} {vs : List Value}, scs l = some vs → vs.length = l.length
  | [], vs, h => by simp only [scs, Option.some.injEq] at h; subst h; rfl
  | a :: l, vs, h => by
    simp only [scs] at h
    split at h
    · rename_i x r h1 h2; cases h; simp [scs_len h2]
    · cases h
theorem iop_sound {P : Program} {inf : Inf} (hinf : InfOk P inf) {E : Env} {call : FuncId → List AV → Option AOut} (hc : ∀ f args out, call f args = some out → E f args out) {id : Nat} {s : IS} {d : Option Nat} {K : AS → Prop} {X : AV → Prop} {o : AOp} {r : IR} (h : iop P inf E.hn call id s d o = some r)
    (hK : match r with | .go s' => K s'.ast | .pan v => X v) : stp P E id s.ast d K X o := by
  cases o
  case box x =>
    simp only [iop] at h
    split at h
    · rename_i cs hcs
      cases h
      refine ⟨cs, hcs, ?_⟩
      simp only [IS.ast_put] at hK
      have : ({ s with bx := (id, some cs) :: s.bx } : IS).ast = { s.ast with bx := upd s.ast.bx id (some cs) } := by simp only [IS.ast, getO_cons]
      rw [this] at hK; exact hK
    · cases h
  case alloc z =>
    simp only [iop, Option.some.injEq] at h
    subst h
    simp only [IS.ast_put] at hK
    have : ({ s with bx := (id, some (z.map .s)) :: s.bx } : IS).ast = { s.ast with bx := upd s.ast.bx id (some (z.map .s)) } := by simp only [IS.ast, getO_cons]
    rw [this] at hK; exact hK
  case st n p x =>
    cases hp : s.ast.ev p with
    | ptr b o =>
      simp only [iop, hp] at h
      simp only [stp, hp]
      split at h
      · rename_i cs new h1 h2
        split at h
        · rename_i hcond
          cases h
          simp only [IS.ast_put] at hK
          have : ({ s with bx := (b, some (put1 cs o new)) :: s.bx } : IS).ast = { s.ast with bx := upd s.ast.bx b (some (put1 cs o new)) } := by simp only [IS.ast, getO_cons]
          rw [this] at hK
          exact ⟨cs, new, h1, h2, hcond.1, hcond.2, hK⟩
        · cases h
      · cases h
    | rptr k sz i o =>
      simp only [iop, hp] at h
      simp only [stp, hp]
      split at h
      · rename_i r new h1 h2 h3
        split at h
        · rename_i cs h4 h5
          split at h
          · rename_i hcond
            cases h
            simp only [IS.ast_put] at hK
            have : ({ s with gr := (k, some { r with xs := r.xs.set i (put1 cs o new) }) :: s.gr } : IS).ast = { s.ast with gr := upd s.ast.gr k (some { r with xs := r.xs.set i (put1 cs o new) }) } := by simp only [IS.ast, getO_cons]
            rw [this] at hK
            exact ⟨r, cs, new, h1, h5, hcond.1, h4, h2, h3, hcond.2.1, hcond.2.2, hK⟩
          · cases h
        · cases h
      · cases h
    | _ => simp [iop, hp] at h
  case bs e sz ps =>
    simp only [iop] at h
    split at h
    · rename_i xs h1 h2
      cases h
      simp only [IS.ast_put] at hK
      have : ({ s with gr := (id, some ⟨e, sz, xs, true⟩) :: shutL s.gr ((ps.map s.ast.ev).flatMap refs) } : IS).ast = { s.ast with gr := upd (shut s.ast.gr ((ps.map s.ast.ev).flatMap refs)) id (some ⟨e, sz, xs, true⟩) } := by simp only [IS.ast, getO_cons, shutL_as]
      rw [this] at hK
      exact ⟨xs, h1, h2, hK⟩
    · cases h
  case ap e sz bytes x y =>
    simp only [iop] at h
    split at h
    · rename_i k xs ys h1 h2
      split at h
      · rename_i hcond
        cases h
        simp only [IS.ast_put] at hK
        have : ({ s with gr := (id, some ⟨e, sz, xs ++ ys, true⟩) :: killL s.gr k } : IS).ast = { s.ast with gr := upd (killT s.ast.gr k) id (some ⟨e, sz, xs ++ ys, true⟩) } := by simp only [IS.ast, getO_cons, killL_as]
        rw [this] at hK
        exact ⟨k, xs, ys, h1, h2, hcond.1, hcond.2, hK⟩
      · cases h
    · cases h
  case call f xs =>
    simp only [iop] at h
    split at h
    · rename_i v h1 h2
      cases h
      simp only [IS.ast_put] at hK
      have : ({ s with gr := shutL s.gr (lent v ((xs.map s.ast.ev).flatMap refs)) } : IS).ast = { s.ast with gr := shut s.ast.gr (lent v ((xs.map s.ast.ev).flatMap refs)) } := by simp only [IS.ast, shutL_as]
      rw [this] at hK
      exact ⟨true, .ret v, hc _ _ _ h1, h2, hK⟩
    · rename_i v h1 h2
      simp only [Option.map_eq_some_iff] at h
      obtain ⟨p, hp, rfl⟩ := h
      exact ⟨true, .pan v, hc _ _ _ h1, h2, p, hp, hK⟩
    · cases h
  case pan x =>
    simp only [iop] at h
    split at h
    · rename_i t v hx
      simp only [Option.map_eq_some_iff] at h
      obtain ⟨p, hp, rfl⟩ := h
      exact ⟨t, v, p, hx, hp, hK⟩
    · cases h
  case mks e sz bytes z x =>
    simp only [iop] at h
    split at h
    · rename_i n hn
      split at h
      · rename_i hcond
        cases h
        simp only [IS.ast_put] at hK
        have : ({ s with gr := (id, some ⟨e, sz, List.replicate n (z.map .s), true⟩) :: s.gr } : IS).ast = { s.ast with gr := upd s.ast.gr id (some ⟨e, sz, List.replicate n (z.map .s), true⟩) } := by simp only [IS.ast, getO_cons]
        rw [this] at hK
        exact ⟨n, hn, hcond, hK⟩
      · cases h
    · cases h
  case callh x xs =>
    simp only [iop] at h
    simp only [stp]
    split at h
    · rename_i f ys zs ht
      rw [ht]
      show callP E (getO s.bx) (getO s.gr) f _ _ _ _
      revert h
      generalize nub ((ys ++ xs.map s.ast.ev ++ zs).flatMap boxesOf) = hs
      generalize ys ++ xs.map s.ast.ev ++ zs = args
      intro h
      unfold ich at h
      unfold callP
      split at h
      · rename_i css hcs
        rw [hcs]
        split at h
        · rename_i v h1 h2
          refine ⟨h1, _, hc _ _ _ h2, ?_⟩
          cases hs with
          | nil =>
            cases h
            simp only [IS.ast_put] at hK
            have : ({ s with gr := shutL s.gr (args.flatMap refs ++ css.flatten.flatMap refC) } : IS).ast = { s.ast with gr := shut s.ast.gr (args.flatMap refs ++ css.flatten.flatMap refC) } := by simp only [IS.ast, shutL_as]
            rw [this] at hK; exact hK
          | cons h0 r0 =>
            simp only at h
            split at h
            · rename_i u l
              split at h
              · rename_i c hu
                split at h
                · rename_i hb
                  cases h
                  have hl := unagg_is hu
                  subst hl
                  simp only [IS.ast_put] at hK
                  have : ({ s with bx := setL s.bx (h0 :: r0) c, gr := shutL s.gr (args.flatMap refs ++ css.flatten.flatMap refC) } : IS).ast = { s.ast with bx := setBx s.ast.bx (h0 :: r0) c, gr := shut s.ast.gr (args.flatMap refs ++ css.flatten.flatMap refC) } := by simp only [IS.ast, shutL_as, setL_as]
                  rw [this] at hK
                  exact ⟨u, c, rfl, Nat.eq_of_beq_eq_true hb, hK⟩
                · cases h
              · cases h
            · cases h
        · rename_i v h1 h2
          refine ⟨h1, _, hc _ _ _ h2, ?_⟩
          cases hs with
          | nil =>
            simp only [Option.map_eq_some_iff] at h
            obtain ⟨p, hp, rfl⟩ := h
            exact ⟨p, hp, hK⟩
          | cons h0 r0 =>
            simp only at h
            split at h
            · rename_i u l
              split at h
              · rename_i c hu
                split at h
                · rename_i hb
                  have hl := unagg_is hu
                  subst hl
                  simp only [Option.map_eq_some_iff, setL_as] at h
                  obtain ⟨p, hp, rfl⟩ := h
                  exact ⟨u, c, rfl, Nat.eq_of_beq_eq_true hb, p, hp, hK⟩
                · cases h
              · cases h
            · cases h
        · cases h
      · cases h
    · cases h
  case sc k xs =>
    simp only [iop] at h
    split at h
    · rename_i vs hvs
      split at h
      · rename_i v hv
        cases h
        simp only [IS.ast_put] at hK
        have e := scI_is hinf hv (by rw [scs_len hvs]; simp)
        have e2 : pv P s.ast.ev s.ast.bx s.ast.gr (.sc k xs) = some v := by simp only [pv, hvs]; exact e
        exact ⟨v, e2, hK⟩
      · cases h
    · cases h
  all_goals
    (simp only [iop] at h
     split at h
     · rename_i v hv
       cases h
       simp only [IS.ast_put] at hK
       exact ⟨v, hv, hK⟩
     · cases h)
noncomputable def iops (P : Program) (inf : Inf) (hn : Nat) (call : FuncId → List AV → Option AOut) : Nat → List (AOper × Bool) → IS → Option IR
  | _, [], s => some (.go s)
  | id, (o, z) :: l, s => match want s.ast o.g with
    | some true => match iop P inf hn call id s o.d o.op with
      | some (.go s') => iops P inf hn call (id + 1) l s'
      | some (.pan v) => if z then some (.pan v) else none
      | none => none
    | some false => iops P inf hn call (id + 1) l (s.put o.d (.tup []))
    | none => none
theorem iops_sound {P : Program} {inf : Inf} (hinf : InfOk P inf) {E : Env} {call : FuncId → List AV → Option AOut} (hc : ∀ f args out, call f args = some out → E f args out) {K : AS → Prop} {X : AV → Prop} : ∀ {l : List (AOper × Bool)} {id : Nat} {s : IS} {r : IR}, iops P inf E.hn call id l s = some r →
    (match r with | .go s' => K s'.ast | .pan v => X v) → runOps P E K X id l s.ast
  | [], id, s, r, h, hK => by simp only [iops, Option.some.injEq] at h; subst h; exact hK
  | (o, z) :: l, id, s, r, h, hK => by
    simp only [iops] at h
    split at h
    · rename_i hw
      refine ⟨true, hw, ?_⟩
      split at h
      · rename_i s' hs
        exact iop_sound hinf hc hs (iops_sound hinf hc h hK)
      · rename_i v hs
        split at h
        · rename_i hz
          cases h
          exact iop_sound hinf hc hs ⟨hz, hK⟩
        · cases h
      · cases h
    · rename_i hw
      refine ⟨false, hw, ?_⟩
      have := iops_sound hinf hc h hK
      rw [IS.ast_put] at this
      exact this
    · cases h
noncomputable def istart (args : List AV) : IS := ⟨List.rec (motive := fun _ => Nat → Tr) (fun _ => .e) (fun x _ g i => trSet (g (Nat.succ i)) x i) args 0, [], [], 0⟩
theorem istart_as (args : List AV) : (istart args).ast = start args := by
  simp only [istart, IS.ast, start]
  congr 1
  have : ∀ (l : List AV) (k j : Nat), trGet (List.rec (motive := fun _ => Nat → Tr) (fun _ => .e) (fun x _ g i => trSet (g (Nat.succ i)) x i) l k) j = if j < k then .any else (l[j - k]?).getD .any := fun l => by
    induction l with
    | nil => intro k j; show AV.any = _; simp
    | cons x l ih =>
      intro k j
      show trGet (trSet (List.rec (motive := fun _ => Nat → Tr) (fun _ => .e) (fun x _ g i => trSet (g (Nat.succ i)) x i) l (Nat.succ k)) x k) j = _
      rw [trGet_set, ih]
      by_cases h : j = k
      · subst h; simp
      · rw [if_neg h]
        by_cases h2 : j < k
        · rw [if_pos (by omega), if_pos h2]
        · rw [if_neg (by omega), if_neg h2, show j - k = (j - Nat.succ k) + 1 by omega, List.getElem?_cons_succ]
  funext i
  rw [this args 0 i]
  simp
noncomputable def istartH (css : List (List AV)) (args : List AV) : IS := ⟨(istart args).t, List.rec (motive := fun _ => Nat → List (Nat × Option (List AV))) (fun _ => []) (fun x _ g i => (i, some x) :: g (Nat.succ i)) css 0, [], css.length⟩
theorem istartH_as (css : List (List AV)) (args : List AV) : (istartH css args).ast = startH css args := by
  have h := istart_as args
  simp only [istartH, IS.ast, startH] at h ⊢
  congr 1
  · have := congrArg AS.t h
    exact this
  · have : ∀ (l : List (List AV)) (k j : Nat), getO (List.rec (motive := fun _ => Nat → List (Nat × Option (List AV))) (fun _ => []) (fun x _ g i => (i, some x) :: g (Nat.succ i)) l k) j = if j < k then none else l[j - k]? := fun l => by
      induction l with
      | nil => intro k j; show none = _; simp
      | cons x l ih =>
        intro k j
        show getO ((k, some x) :: List.rec (motive := fun _ => Nat → List (Nat × Option (List AV))) (fun _ => []) (fun x _ g i => (i, some x) :: g (Nat.succ i)) l (Nat.succ k)) j = _
        rw [getO_cons]
        unfold upd
        by_cases h : j = k
        · subst h; simp
        · rw [if_neg h, ih]
          by_cases h2 : j < k
          · rw [if_pos (by omega), if_pos h2]
          · rw [if_neg (by omega), if_neg h2, show j - k = (j - Nat.succ k) + 1 by omega, List.getElem?_cons_succ]
    funext i
    rw [this css 0 i]
    simp
abbrev Tbl := FuncId → Option (Nat × ACode × List RV)
noncomputable def icall (P : Program) (tbl : Tbl) (ext : FuncId → List AV → Option AOut) (r : Nat → ACode → IS → Option (AEx × IS)) (f : FuncId) (args : List AV) : Option AOut :=
  match tbl f with
  | some (n, ac, rs) => match headT args with
    | none => match Nat.ble args.length n with
      | true => match r 0 ac (istart args) with
        | some (.normal, s) | some (.ret, s) => (outOfK P s.ast rs).map .ret
        | some (.pan v, _) => some (.pan v)
        | _ => none
      | false => none
    | some (cs, al) => match unagg cs, Nat.ble al.length n with
      | some (c :: css), true => match r (Nat.succ css.length) ac (istartH (c :: css) al) with
        | some (.normal, s) | some (.ret, s) => match outOf P s.ast rs, handsG (getO s.gr) (getO s.bx) (Nat.succ css.length) 0 with
          | some v, some l => some (.ret (.tup (v :: l)))
          | _, _ => none
        | some (.pan v, _) => some (.pan v)
        | _ => none
      | _, _ => none
  | none => ext f args
noncomputable def run (P : Program) (inf : Inf) (tbl : Tbl) (ext : FuncId → List AV → Option AOut) : Nat → Nat → ACode → IS → Option (AEx × IS)
  | 0, _, _, _ => none
  | n + 1, hn, c, s => match c with
    | .skip => some (.normal, s)
    | .reg al => match iops P inf hn (icall P tbl ext (run P inf tbl ext n)) s.nx al s with
      | some (.go s') => some (.normal, { s' with nx := s.nx + al.length })
      | some (.pan v) => some (.pan v, s)
      | none => none
    | .seq a b => match run P inf tbl ext n hn a s with
      | some (.normal, s') => run P inf tbl ext n hn b s'
      | r => r
    | .cond o x y => match s.ast.ev o with
      | .s (.bool true) => run P inf tbl ext n hn x s
      | .s (.bool false) => run P inf tbl ext n hn y s
      | _ => none
    | .block id x => match run P inf tbl ext n hn x s with
      | some (.exit i, s') => match Nat.beq i id with | true => some (.normal, s') | false => some (.exit i, s')
      | r => r
    | .loop x => match run P inf tbl ext n hn x s with
      | some (.normal, s') => run P inf tbl ext n hn (.loop x) s'
      | r => r
    | .exit id => some (.exit id, s)
    | .ret => some (.ret, s)
    | .bad => none
    | .fgt => some (.normal, s)
section
variable {P : Program} {inf : Inf} {tbl : Tbl} {ext : FuncId → List AV → Option AOut}
def upto (P : Program) (inf : Inf) (tbl : Tbl) (ext : FuncId → List AV → Option AOut) (n : Nat) : Env := ⟨fun f args out => ∃ m, m < n ∧ icall P tbl ext (run P inf tbl ext m) f args = some out, 0⟩
def uptoH (P : Program) (inf : Inf) (tbl : Tbl) (ext : FuncId → List AV → Option AOut) (n hn : Nat) : Env := ⟨(upto P inf tbl ext n).sp, hn⟩
theorem Le.refl' (hn : Nat) (s : AS) : Le hn s s := fun _ g _ _ _ R => ⟨g, R⟩
theorem run_sound (hinf : InfOk P inf) {E : Env} : ∀ (n : Nat), (∀ m f args out, m < n → icall P tbl ext (run P inf tbl ext m) f args = some out → E f args out) →
    ∀ (c : ACode) (s : IS) (e : AEx) (s' : IS) (K : AEx → AS → Prop), run P inf tbl ext n E.hn c s = some (e, s') → K e s'.ast → awp P E c K s.ast
  | 0, _, c, s, e, s', K, h, _ => by simp [run] at h
  | n + 1, hE, c, s, e, s', K, h, hK => by
    have ih := run_sound hinf n fun m f args out hm => hE m f args out (by omega)
    cases c with
    | skip => simp only [run, Option.some.injEq, Prod.mk.injEq] at h; obtain ⟨rfl, rfl⟩ := h; exact hK
    | exit i => simp only [run, Option.some.injEq, Prod.mk.injEq] at h; obtain ⟨rfl, rfl⟩ := h; exact hK
    | ret => simp only [run, Option.some.injEq, Prod.mk.injEq] at h; obtain ⟨rfl, rfl⟩ := h; exact hK
    | bad => simp [run] at h
    | fgt => simp only [run, Option.some.injEq, Prod.mk.injEq] at h; obtain ⟨rfl, rfl⟩ := h; exact ⟨_, .refl' _ _, hK⟩
    | reg al =>
      simp only [run] at h
      split at h
      · rename_i s1 hs
        simp only [Option.some.injEq, Prod.mk.injEq] at h
        obtain ⟨rfl, rfl⟩ := h
        exact iops_sound hinf (fun f args out => hE n f args out (Nat.lt_succ_self n)) hs (K := fun z => K .normal { z with nx := s.ast.nx + al.length }) hK
      · rename_i v hs
        simp only [Option.some.injEq, Prod.mk.injEq] at h
        obtain ⟨rfl, rfl⟩ := h
        exact iops_sound hinf (fun f args out => hE n f args out (Nat.lt_succ_self n)) hs hK
      · cases h
    | seq a b =>
      simp only [run] at h
      split at h
      · rename_i s1 hs
        exact ih a s .normal s1 _ hs (ih b s1 e s' K h hK)
      · rename_i hne
        refine ih a s e s' _ h ?_
        cases e with
        | normal => exact absurd h (hne s')
        | _ => exact hK
    | cond o x y =>
      simp only [run] at h
      split at h
      · rename_i ho; exact ⟨true, ho, fun _ => ih x s e s' K h hK, fun q => by cases q⟩
      · rename_i ho; exact ⟨false, ho, (fun q => by cases q), fun _ => ih y s e s' K h hK⟩
      · cases h
    | block id x =>
      simp only [run] at h
      split at h
      · rename_i i s1 hs
        split at h
        · rename_i hi
          simp only [Option.some.injEq, Prod.mk.injEq] at h
          obtain ⟨rfl, rfl⟩ := h
          have := Nat.eq_of_beq_eq_true hi; subst this
          exact ih x s _ s1 _ hs (by simp only [AEx.blk, if_true]; exact hK)
        · rename_i hi
          simp only [Option.some.injEq, Prod.mk.injEq] at h
          obtain ⟨rfl, rfl⟩ := h
          refine ih x s _ s1 _ hs ?_
          have : i ≠ id := fun e => by subst e; simp at hi
          simp only [AEx.blk, this, if_false]; exact hK
      · rename_i hne
        refine ih x s e s' _ h ?_
        cases e with
        | exit i => exact absurd h (hne i s')
        | _ => exact hK
    | loop x =>
      refine ⟨{ q : IS × Nat // q.2 ≤ n + 1 ∧ run P inf tbl ext q.2 E.hn (.loop x) q.1 = some (e, s') }, fun q => q.1.1.ast, fun q => q.1.2, ⟨(s, n + 1), Nat.le_refl _, h⟩, .refl' _ _, fun q => ?_⟩
      obtain ⟨⟨z, m⟩, hm, hq⟩ := q
      dsimp only at hm hq ⊢
      cases m with
      | zero => simp [run] at hq
      | succ m =>
        simp only [run] at hq
        have ihm := run_sound hinf m fun m' f args out hm' => hE m' f args out (by omega)
        split at hq
        · rename_i s1 hs
          exact ihm x z .normal s1 _ hs ⟨⟨(s1, m), by dsimp only; omega, hq⟩, .refl' _ _, Nat.lt_succ_self m⟩
        · rename_i hne
          refine ihm x z e s' _ hq ?_
          cases e with
          | normal => exact absurd hq (hne s')
          | _ => exact hK
def TblOk (P : Program) (tbl : Tbl) : Prop := ∀ f n ac rs, tbl f = some (n, ac, rs) → ∃ fn code, fnOk P f = true ∧ P.funcs[f]? = some fn ∧ n ≤ fn.ntmps ∧ fn.body = some code ∧ comp P fn.ntmps code = some ac.strip ∧ rvs P fn.results.toList = some rs
theorem upto_ok (hinf : InfOk P inf) {J : JW} (hJ : JOk J) (ht : TblOk P tbl) (hx : ∀ f args out, tbl f = none → ext f args = some out → fnOk P f = true ∧ OkAt P J f args out) : ∀ n, Ok P J (upto P inf tbl ext n)
  | 0 => fun f args out ⟨m, hm, _⟩ => by omega
  | n + 1 => fun f args out ⟨m, hm, h⟩ => by
    have ok := upto_ok hinf hJ ht hx n
    by_cases hmn : m < n
    · exact ok f args out ⟨m, hmn, h⟩
    · have : m = n := by omega
      subst this
      unfold icall at h
      split at h
      · rename_i np ac rs htb
        obtain ⟨fn, code, h0, h1, hnp, h2, h3, h4⟩ := ht f np ac rs htb
        refine ⟨h0, ?_⟩
        split at h
        · rename_i hhd
          split at h
          case h_2 => cases h
          rename_i hle
          have hlen := Nat.le_of_ble_eq_true hle
          have fin' : ∀ e s', run P inf tbl ext m 0 ac (istart args) = some (e, s') → finW P rs (· = out) e s'.ast → OkAt P J f args out := fun e s' hr hf => by
            unfold OkAt
            rw [hhd]
            intro S w us hw hA ha
            refine fn_soundW ok rfl hJ h1 h2 h3 h4 (Nat.le_trans hlen hnp) ?_ S w us hw hA ha
            rw [← istart_as]
            exact run_sound (E := upto P inf tbl ext m) hinf m (fun m' f args out hm' hc => ⟨m', hm', hc⟩) ac _ e s' _ hr hf
          split at h
          · rename_i s hr
            simp only [Option.map_eq_some_iff] at h
            obtain ⟨v, hv, rfl⟩ := h
            exact fin' _ _ hr ⟨v, .inr hv, rfl⟩
          · rename_i s hr
            simp only [Option.map_eq_some_iff] at h
            obtain ⟨v, hv, rfl⟩ := h
            exact fin' _ _ hr ⟨v, .inr hv, rfl⟩
          · rename_i v s hr
            cases h
            exact fin' _ _ hr rfl
          · cases h
        · rename_i cs al hhd
          split at h
          case h_2 => cases h
          rename_i c css hu hle
          have hlen := Nat.le_of_ble_eq_true hle
          have hcs := unagg_is hu
          subst hcs
          have fin' : ∀ e s', run P inf tbl ext m (css.length + 1) ac (istartH (c :: css) al) = some (e, s') → finH P rs (css.length + 1) (· = out) e s'.ast → OkAt P J f args out := fun e s' hr hf => by
            unfold OkAt
            rw [hhd]
            intro S w hs us hw hA hH ha
            refine fn_soundH (E := uptoH P inf tbl ext m (css.length + 1)) (css := c :: css) ok hJ h1 h2 h3 h4 rfl (Nat.succ_pos _) (Nat.le_trans hlen hnp) ?_ S w hs us hw hA hH ha
            rw [← istartH_as]
            exact run_sound (E := uptoH P inf tbl ext m (css.length + 1)) hinf m (fun m' f args out hm' hc => ⟨m', hm', hc⟩) ac _ e s' _ hr hf
          split at h
          · rename_i s hr
            split at h
            · rename_i v l h5 h6
              cases h
              exact fin' _ _ hr ⟨v, l, h5, h6, rfl⟩
            · cases h
          · rename_i s hr
            split at h
            · rename_i v l h5 h6
              cases h
              exact fin' _ _ hr ⟨v, l, h5, h6, rfl⟩
            · cases h
          · rename_i v s hr
            cases h
            exact fin' _ _ hr rfl
          · cases h
      · rename_i htb
        exact hx f args out htb h
end
end Go.Proofs.YtnjmilelifmfpaaGreatDoor.Ev
