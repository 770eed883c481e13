-- Written for this claim.
import Derived.Test.YthdkjfhpbigdpaaDoorWWords
import Derived.Test.YthdkjfhpbigdpaaDoorQx0
import Derived.Test.YthdkjfhpbigdpaaDoorHTree
import Derived.Deep.DeepCutAuto
import Derived.Deep.CutBlock
import Derived.MapKept
namespace Go.Proofs.YthdkjfhpbigdpaaDoor.Pure
open Go Go.RowKit Go.Lib Go.Proofs Go.Proofs.YthdkjfhpbigdpaaDoorW.PrintWords Go.Proofs.YthdkjfhpbigdpaaDoorW.PrintLast Go.Proofs.YthdkjfhpbigdpaaDoorW.PrintMore
namespace TreeMap
set_option linter.unusedVariables false
set_option linter.unusedSimpArgs false
def ent (k a b c : Int) (born : Nat) : MapEntry := { key := .int .i64 k, val := .agg #[.int .i64 a, .int .i64 b, .int .i64 c], born := born }
/-- The entries of the kinds' shapes, the first n. -/
def rows : List (Int × Int × Int) := [(1, 0, 0), (1, 1, 1), (0, 2, 2), (1, 2, 2), (1, 2, 2), (2, 0, 8), (0, 2, 9), (2, 1, 9), (0, 0, 0), (3, 2, 2)]
def ents (n : Nat) : Array MapEntry := ((rows.take n).zipIdx.map fun (r, i) => ent ((i : Int) + 1) r.1 r.2.1 r.2.2 i).toArray
theorem hm : Tryd.prog.underlying 51 = some (.map 3 49) := by kernel_rfl
theorem hd : Tryd.prog.underlying 3 = some (.int .i64) := by kernel_rfl
theorem push_set {α : Type} (a : Array α) (x y : α) : (a.push x).setIfInBounds a.size y = a.push y := by
  apply Array.ext'
  simp
theorem setLast (w : World) (o o' : Obj) : { (w.alloc o) with heap := (w.alloc o).heap.setIfInBounds w.heap.size o' } = w.alloc o' := by
  cases w; simp only [World.alloc, push_set]
/-- A new entry into the map that was made last. -/
theorem ins (w : World) (es : Array MapEntry) (c : Nat) (k : Int) (v : Value) (h : Instr.findNow (.int .i64) (.int .i64 k) es.toList 0 = some none) :
    (Instr.mapUpdate 51 (.map (some w.heap.size)) (.int .i64 k) v).run Tryd.prog (w.alloc (.map es c)) = .ok () (w.alloc (.map (es.push { key := .int .i64 k, val := v, born := c }) (c + 1))) := by
  have hb : (w.alloc (.map es c)).heap[w.heap.size]? = some (.map es c) := by
    show (w.heap.push (.map es c))[w.heap.size]? = _
    simp
  have hk : MapKept.IsKey (.int .i64) (.int .i64 k) := rfl
  simp only [Instr.mapUpdate, Sem.run_bind, run_underlying hm, MapKept.run_getObj_map hb, MapKept.run_checkKey hd hk, MapKept.run_findKey hd h, MapKept.run_setObj_map _ hb, Result.andThen, setLast]
theorem insN (w : World) (n : Nat) (hn : n < 10) : (Instr.mapUpdate 51 (.map (some w.heap.size)) (.int .i64 ((n : Int) + 1)) (.agg #[.int .i64 (rows.getD n (0, 0, 0)).1, .int .i64 (rows.getD n (0, 0, 0)).2.1, .int .i64 (rows.getD n (0, 0, 0)).2.2])).run Tryd.prog (w.alloc (.map (ents n) n)) = .ok () (w.alloc (.map (ents (n + 1)) (n + 1))) := by
  have : n = 0 ∨ n = 1 ∨ n = 2 ∨ n = 3 ∨ n = 4 ∨ n = 5 ∨ n = 6 ∨ n = 7 ∨ n = 8 ∨ n = 9 := by omega
  rcases this with rfl | rfl | rfl | rfl | rfl | rfl | rfl | rfl | rfl | rfl <;> (rw [ins w _ _ _ _ (by rfl)]; rfl)
set_option maxRecDepth 100000 in
/-- tree.shapes makes the map of the kinds' shapes. -/
theorem shapes_any (w : World) : Calls Tryd.prog 28 #[] w fun e w' => e = .returned (.map (some w.heap.size)) ∧ w' = w.alloc (.map (ents 10) 10) := by
  have i0 : (Instr.mapUpdate 51 (.map (some w.heap.size)) (.int .i64 1) (.agg #[.int .i64 1, .int .i64 0, .int .i64 0])).run Tryd.prog (w.alloc (.map (ents 0) 0)) = .ok () (w.alloc (.map (ents 1) 1)) := insN w 0 (by omega)
  have i1 : (Instr.mapUpdate 51 (.map (some w.heap.size)) (.int .i64 2) (.agg #[.int .i64 1, .int .i64 1, .int .i64 1])).run Tryd.prog (w.alloc (.map (ents 1) 1)) = .ok () (w.alloc (.map (ents 2) 2)) := insN w 1 (by omega)
  have i2 : (Instr.mapUpdate 51 (.map (some w.heap.size)) (.int .i64 3) (.agg #[.int .i64 0, .int .i64 2, .int .i64 2])).run Tryd.prog (w.alloc (.map (ents 2) 2)) = .ok () (w.alloc (.map (ents 3) 3)) := insN w 2 (by omega)
  have i3 : (Instr.mapUpdate 51 (.map (some w.heap.size)) (.int .i64 4) (.agg #[.int .i64 1, .int .i64 2, .int .i64 2])).run Tryd.prog (w.alloc (.map (ents 3) 3)) = .ok () (w.alloc (.map (ents 4) 4)) := insN w 3 (by omega)
  have i4 : (Instr.mapUpdate 51 (.map (some w.heap.size)) (.int .i64 5) (.agg #[.int .i64 1, .int .i64 2, .int .i64 2])).run Tryd.prog (w.alloc (.map (ents 4) 4)) = .ok () (w.alloc (.map (ents 5) 5)) := insN w 4 (by omega)
  have i5 : (Instr.mapUpdate 51 (.map (some w.heap.size)) (.int .i64 6) (.agg #[.int .i64 2, .int .i64 0, .int .i64 8])).run Tryd.prog (w.alloc (.map (ents 5) 5)) = .ok () (w.alloc (.map (ents 6) 6)) := insN w 5 (by omega)
  have i6 : (Instr.mapUpdate 51 (.map (some w.heap.size)) (.int .i64 7) (.agg #[.int .i64 0, .int .i64 2, .int .i64 9])).run Tryd.prog (w.alloc (.map (ents 6) 6)) = .ok () (w.alloc (.map (ents 7) 7)) := insN w 6 (by omega)
  have i7 : (Instr.mapUpdate 51 (.map (some w.heap.size)) (.int .i64 8) (.agg #[.int .i64 2, .int .i64 1, .int .i64 9])).run Tryd.prog (w.alloc (.map (ents 7) 7)) = .ok () (w.alloc (.map (ents 8) 8)) := insN w 7 (by omega)
  have i8 : (Instr.mapUpdate 51 (.map (some w.heap.size)) (.int .i64 9) (.agg #[.int .i64 0, .int .i64 0, .int .i64 0])).run Tryd.prog (w.alloc (.map (ents 8) 8)) = .ok () (w.alloc (.map (ents 9) 9)) := insN w 8 (by omega)
  have i9 : (Instr.mapUpdate 51 (.map (some w.heap.size)) (.int .i64 10) (.agg #[.int .i64 3, .int .i64 2, .int .i64 2])).run Tryd.prog (w.alloc (.map (ents 9) 9)) = .ok () (w.alloc (.map (ents 10) 10)) := insN w 9 (by omega)
  have hmm : ∀ w : World, (Instr.makeMap 51 none).run Tryd.prog w = .ok (.map (some w.heap.size)) (w.alloc (.map (ents 0) 0)) := fun w => rfl
  go_enter Tryd.func28, Tryd.ntmps28
  go_wp2
  go_ret
  exact ⟨rfl, rfl⟩
end TreeMap
end Go.Proofs.YthdkjfhpbigdpaaDoor.Pure
