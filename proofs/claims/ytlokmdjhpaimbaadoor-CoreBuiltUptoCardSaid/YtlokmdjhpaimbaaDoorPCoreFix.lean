-- Written for this claim.
import Derived.Test.YtlokmdjhpaimbaaDoorQx37
import Derived.Test.YtlokmdjhpaimbaaDoorQx38
import Derived.Test.YtlokmdjhpaimbaaDoorQx39
import Derived.Test.YtlokmdjhpaimbaaDoorPCoreMay3
import Derived.Test.YtlokmdjhpaimbaaDoorPCoreText
import Derived.Test.YtlokmdjhpaimbaaDoorPCoreSm
import Derived.Deep.RegionWith
namespace Go.Proofs.YtlokmdjhpaimbaaDoor.Pure
open Go Go.RowKit Go.Lib Go.Proofs Go.Proofs.YtlokmdjhpaimbaaDoor.Q Go.Proofs.YtlokmdjhpaimbaaDoorW.PrintWords Go.Proofs.YtlokmdjhpaimbaaDoorW.PrintLast Go.Proofs.YtlokmdjhpaimbaaDoorW.PrintMore
open HCore
namespace CoreFix
set_option linter.unusedVariables false
set_option linter.unusedSimpArgs false
/-- A literal row of one term. -/
theorem C1 {W : World} {x : T} {cs : List Value} (h : k24.K W x cs) : Kd.C k24 (W.alloc (.cells cs.toArray 24)) (some ⟨W.heap.size, 0, none⟩) 1 [x] := by
  have hb := below_alloc (Below.refl W.heap.size W) (.cells cs.toArray 24)
  have hn := blk_new W (.cells cs.toArray 24)
  refine ⟨rfl, by decide, fun _ => ⟨_, rfl, fun j p hj => ?_⟩⟩
  match j, hj with
  | 0, hj =>
    obtain rfl : x = p := by simpa using hj
    refine ⟨cs, k24.K_len h, k24.K_below hb h, fun i u hi => ?_⟩
    have := blk_cell hn i
    have e : (⟨W.heap.size, 0, none⟩ : Addr).add (0 * k24.sz + i) = ⟨W.heap.size, i, none⟩ := by rw [Nat.zero_mul, Nat.zero_add]; simp only [Addr.add]; split <;> simp_all
    rw [e, this]; simpa using hi
theorem C2 {W : World} {x y : T} {cs ds : List Value} (h : k24.K W x cs) (h2 : k24.K W y ds) : Kd.C k24 (W.alloc (.cells (cs ++ ds).toArray 24)) (some ⟨W.heap.size, 0, none⟩) 2 [x, y] := by
  have hb := below_alloc (Below.refl W.heap.size W) (.cells (cs ++ ds).toArray 24)
  have hn := blk_new W (.cells (cs ++ ds).toArray 24)
  have hl : cs.length = 4 := k24.K_len h
  refine ⟨rfl, by decide, fun _ => ⟨_, rfl, fun j p hj => ?_⟩⟩
  match j, hj with
  | 0, hj =>
    obtain rfl : x = p := by simpa using hj
    refine ⟨cs, k24.K_len h, k24.K_below hb h, fun i u hi => ?_⟩
    have := blk_cell hn i
    have e : (⟨W.heap.size, 0, none⟩ : Addr).add (0 * k24.sz + i) = ⟨W.heap.size, i, none⟩ := by rw [Nat.zero_mul, Nat.zero_add]; simp only [Addr.add]; split <;> simp_all
    have hlt := (List.getElem?_eq_some_iff.1 hi).1
    rw [e, this]; simpa [List.getElem?_append_left hlt] using hi
  | 1, hj =>
    obtain rfl : y = p := by simpa using hj
    refine ⟨ds, k24.K_len h2, k24.K_below hb h2, fun i u hi => ?_⟩
    have := blk_cell hn (4 + i)
    have e : (⟨W.heap.size, 0, none⟩ : Addr).add (1 * k24.sz + i) = ⟨W.heap.size, 4 + i, none⟩ := by rw [show 1 * k24.sz + i = 4 + i from rfl]; simp only [Addr.add]; split <;> simp_all
    rw [e, this]; simp [List.getElem?_append_right, hl, hi]
theorem C0 (W : World) : Kd.C k24 W none 0 [] := ⟨rfl, by decide, fun h => absurd h (by decide)⟩
def eI : T := ⟨2, 0, ⟨#[]⟩, [⟨1, 0, ⟨#[]⟩, []⟩]⟩
def eT : T := ⟨3, 0, ⟨#[]⟩, [eI, ⟨7, -7, ⟨#[]⟩, []⟩]⟩
def eU : T := ⟨5, 0, ⟨#[]⟩, [eT, ⟨6, 2, ⟨#[65]⟩, [⟨1, 1, ⟨#[]⟩, []⟩]⟩]⟩
theorem it0 : Lib.itoa 0 = [48] := by rw [Lib.itoa, if_neg (by decide)]; exact Lib.decDigits_one (by decide)
theorem it1 : Lib.itoa 1 = [49] := by rw [Lib.itoa, if_neg (by decide)]; exact Lib.decDigits_one (by decide)
theorem it2 : Lib.itoa 2 = [50] := by rw [Lib.itoa, if_neg (by decide)]; exact Lib.decDigits_one (by decide)
theorem it7 : Lib.itoa (-7) = [45, 55] := by rw [Lib.itoa, if_pos (by decide)]; exact congrArg _ (Lib.decDigits_one (i := 7) (by decide))
theorem text_I : CoreText.text eI = [40, 92, 32, 35, 48, 41] := by simp [eI, CoreText.text, CoreText.texts, CoreText.word, it0]
theorem text_T : CoreText.text eT = [40, 64, 32, 40, 92, 32, 35, 48, 41, 32, 45, 55, 41] := by simp [eT, eI, CoreText.text, CoreText.texts, CoreText.word, it0, it7]
theorem text_U : CoreText.text eU = [40, 63, 32, 40, 64, 32, 40, 92, 32, 35, 48, 41, 32, 45, 55, 41, 32, 40, 65, 58, 50, 32, 35, 49, 41, 41] := by simp [eU, eT, eI, CoreText.text, CoreText.texts, CoreText.word, it0, it1, it2, it7]
theorem field3 (a b : Int) (s : ByteArray) (A : Option Addr) (n c : Nat) : ∀ w : World, (Instr.field 24 (.agg #[.int .i64 a, .int .i64 b, .string s, .slice A n c]) 3).run Tryd.prog w = .ok (.slice A n c) w := fun w => by simp [Instr.field, asAgg, run_underlying Tryd.underlying24, go_sem]
def eF : T := ⟨9, 0, ⟨#[]⟩, []⟩
theorem text_F : CoreText.text eF = [33] := rfl
theorem ok_F : Ok eF := ⟨rfl, rfl, trivial⟩
theorem ok_I : Ok eI := ⟨rfl, rfl, ⟨rfl, rfl, trivial⟩, trivial⟩
theorem ok_T : Ok eT := ⟨rfl, rfl, ok_I, ⟨rfl, rfl, trivial⟩, trivial⟩
theorem ok_U : Ok eU := ⟨rfl, rfl, ok_T, ⟨rfl, rfl, ⟨rfl, rfl, trivial⟩, trivial⟩, trivial⟩
set_option maxRecDepth 100000 in
set_option maxHeartbeats 8000000 in
theorem fixed_any (w : World) (htab : Lib.TabIs Tryd.prog w "internal/strconv.uint64pow10" .u64 Lib.pow10Tab) :
    Calls Tryd.prog 8 #[] w fun e w' => e = .returned (.bool true) ∧ Below w.heap.size w w' := by
  have HT := Lib.hid (tabBelow_of_tabIs htab)
  clear htab
  have hu24 := Tryd.underlying24
  go_enter Tryd.func8, Tryd.ntmps8
  go_wp2_with fail
  refine (gossamerlaw06_id.calls _ _ _ _ w rfl).mono ?_
  rintro e w1 ⟨v1, rfl, r1, hb1⟩
  obtain ⟨A1, c1, rfl, hc1, cc1⟩ := Kd.R_reads r1
  have HB := Lib.hid hb1; have C1' := Lib.hid cc1
  clear hb1 cc1 r1
  go_wp2_with fail
  have hg : w1.heap.size = w1.heap.size := rfl
  have ct := C2 (k24_mk w1 eI (A3 := A1) (c3 := c1) hc1 C1'.out) (k24_mk w1 ⟨7, -7, ⟨#[]⟩, []⟩ (A3 := none) (c3 := 0) (Nat.le_refl _) (C0 w1))
  have hA := below_alloc (Below.refl w1.heap.size w1) (Obj.cells #[.int .i64 2, .int .i64 0, .string ⟨#[]⟩, .slice A1 1 c1, .int .i64 7, .int .i64 (-7), .string ⟨#[]⟩, .slice none 0 0] 24)
  have sA := World.size_alloc w1 (Obj.cells #[.int .i64 2, .int .i64 0, .string ⟨#[]⟩, .slice A1 1 c1, .int .i64 7, .int .i64 (-7), .string ⟨#[]⟩, .slice none 0 0] 24)
  change Kd.C k24 (w1.alloc (Obj.cells #[.int .i64 2, .int .i64 0, .string ⟨#[]⟩, .slice A1 1 c1, .int .i64 7, .int .i64 (-7), .string ⟨#[]⟩, .slice none 0 0] 24)) _ 2 eT.f3 at ct
  generalize w1.alloc (Obj.cells #[.int .i64 2, .int .i64 0, .string ⟨#[]⟩, .slice A1 1 c1, .int .i64 7, .int .i64 (-7), .string ⟨#[]⟩, .slice none 0 0] 24) = wa at ct hA sA ⊢
  have tb := blk_new wa (Obj.cells #[.int .i64 3, .int .i64 0, .string ⟨#[]⟩, .slice (some ⟨w1.heap.size, 0, none⟩) 2 2] 24)
  have hB := below_alloc (Below.refl wa.heap.size wa) (Obj.cells #[.int .i64 3, .int .i64 0, .string ⟨#[]⟩, .slice (some ⟨w1.heap.size, 0, none⟩) 2 2] 24)
  have sB := World.size_alloc wa (Obj.cells #[.int .i64 3, .int .i64 0, .string ⟨#[]⟩, .slice (some ⟨w1.heap.size, 0, none⟩) 2 2] 24)
  generalize wa.alloc (Obj.cells #[.int .i64 3, .int .i64 0, .string ⟨#[]⟩, .slice (some ⟨w1.heap.size, 0, none⟩) 2 2] 24) = wb at tb hB sB ⊢
  have cv := C1 (k24_mk wb ⟨1, 1, ⟨#[]⟩, []⟩ (A3 := none) (c3 := 0) (Nat.le_refl _) (C0 wb))
  change Kd.C k24 (wb.alloc (Obj.cells #[.int .i64 1, .int .i64 1, .string ⟨#[]⟩, .slice none 0 0] 24)) _ 1 [⟨1, 1, ⟨#[]⟩, []⟩] at cv
  have hC := below_alloc (Below.refl wb.heap.size wb) (Obj.cells #[.int .i64 1, .int .i64 1, .string ⟨#[]⟩, .slice none 0 0] 24)
  have sC := World.size_alloc wb (Obj.cells #[.int .i64 1, .int .i64 1, .string ⟨#[]⟩, .slice none 0 0] 24)
  generalize wb.alloc (Obj.cells #[.int .i64 1, .int .i64 1, .string ⟨#[]⟩, .slice none 0 0] 24) = wc at cv hC sC ⊢
  have ct' := Kd.C_below (Kd.C_below ct hB) hC
  have cu := C2 (k24_mk wc eT (A3 := some ⟨w1.heap.size, 0, none⟩) (c3 := 2) (Nat.le_refl _) ct') (k24_mk wc ⟨6, 2, ⟨#[65]⟩, [⟨1, 1, ⟨#[]⟩, []⟩]⟩ (A3 := some ⟨wb.heap.size, 0, none⟩) (c3 := 1) (Nat.le_refl _) cv)
  have eb : wb.heap.size = w1.heap.size + 1 + 1 := by rw [sB, sA]
  rw [eb] at cu cv
  have ec : wc.heap.size = w1.heap.size + 1 + 1 + 1 := by rw [sC, eb]
  change Kd.C k24 (wc.alloc (Obj.cells #[.int .i64 3, .int .i64 0, .string ⟨#[]⟩, .slice (some ⟨w1.heap.size, 0, none⟩) 2 2, .int .i64 6, .int .i64 2, .string ⟨#[65]⟩, .slice (some ⟨w1.heap.size + 1 + 1, 0, none⟩) 1 1] 24)) _ 2 eU.f3 at cu
  have rb := blk_new wc (Obj.cells #[.int .i64 3, .int .i64 0, .string ⟨#[]⟩, .slice (some ⟨w1.heap.size, 0, none⟩) 2 2, .int .i64 6, .int .i64 2, .string ⟨#[65]⟩, .slice (some ⟨w1.heap.size + 1 + 1, 0, none⟩) 1 1] 24)
  have hD := below_alloc (Below.refl wc.heap.size wc) (Obj.cells #[.int .i64 3, .int .i64 0, .string ⟨#[]⟩, .slice (some ⟨w1.heap.size, 0, none⟩) 2 2, .int .i64 6, .int .i64 2, .string ⟨#[65]⟩, .slice (some ⟨w1.heap.size + 1 + 1, 0, none⟩) 1 1] 24)
  have sD := World.size_alloc wc (Obj.cells #[.int .i64 3, .int .i64 0, .string ⟨#[]⟩, .slice (some ⟨w1.heap.size, 0, none⟩) 2 2, .int .i64 6, .int .i64 2, .string ⟨#[65]⟩, .slice (some ⟨w1.heap.size + 1 + 1, 0, none⟩) 1 1] 24)
  generalize wc.alloc (Obj.cells #[.int .i64 3, .int .i64 0, .string ⟨#[]⟩, .slice (some ⟨w1.heap.size, 0, none⟩) 2 2, .int .i64 6, .int .i64 2, .string ⟨#[65]⟩, .slice (some ⟨w1.heap.size + 1 + 1, 0, none⟩) 1 1] 24) = wd at cu rb hD sD ⊢
  rw [ec] at cu rb
  have ed : wd.heap.size = w1.heap.size + 1 + 1 + 1 + 1 := by rw [sD, ec]
  have ea : wa.heap.size = w1.heap.size + 1 := sA
  have ub := blk_new wd (Obj.cells #[.int .i64 5, .int .i64 0, .string ⟨#[]⟩, .slice (some ⟨w1.heap.size + 1 + 1 + 1, 0, none⟩) 2 2] 24)
  have hE := below_alloc (Below.refl wd.heap.size wd) (Obj.cells #[.int .i64 5, .int .i64 0, .string ⟨#[]⟩, .slice (some ⟨w1.heap.size + 1 + 1 + 1, 0, none⟩) 2 2] 24)
  generalize wd.alloc (Obj.cells #[.int .i64 5, .int .i64 0, .string ⟨#[]⟩, .slice (some ⟨w1.heap.size + 1 + 1 + 1, 0, none⟩) 2 2] 24) = we at ub hE ⊢
  rw [ed] at ub
  rw [ea] at tb
  have CT := Lib.hid (Kd.C_below (Kd.C_below ct' hD) hE); have CU := Lib.hid (Kd.C_below cu hE); have CV := Lib.hid (Kd.C_below (Kd.C_below cv hD) hE); have TB := Lib.hid (blk_below (blk_below (blk_below tb hC) hD) hE); have UB := Lib.hid ub; have RB := Lib.hid (blk_below rb hE)
  have HB2 := Lib.hid (below_step (below_step (below_step (below_step (below_step HB.out hA) hB) hC) hD) hE)
  clear HB
  have HB := HB2
  clear HB2 ct ct' cv cu tb rb ub hA hB hC hD hE sA sB sC sD ea eb ec ed C1' hc1 hg
  generalize w1.heap.size = g at *
  have t0 := blk_cell TB.out 0; have t1 := blk_cell TB.out 1; have t2 := blk_cell TB.out 2; have t3 := blk_cell TB.out 3
  have u0 := blk_cell UB.out 0; have u1 := blk_cell UB.out 1; have u2 := blk_cell UB.out 2; have u3 := blk_cell UB.out 3
  have m0 := blk_cell RB.out 4; have m1 := blk_cell RB.out 5; have m2 := blk_cell RB.out 6; have m3 := blk_cell RB.out 7
  simp only [List.getElem?_toArray, List.getElem?_cons_zero, List.getElem?_cons_succ] at t0 t1 t2 t3 u0 u1 u2 u3 m0 m1 m2 m3
  refine (gossamerlaw06_id.calls _ _ _ _ _ rfl).mono ?_
  rintro e w5 ⟨v1, rfl, r1, hb⟩
  obtain ⟨A5, c5, rfl, hc5, cc5⟩ := Kd.R_reads r1
  have CN := Lib.hid cc5
  clear cc5 r1
  have n0_ := Lib.hid (below_step HB.out hb); have n1_ := Lib.hid (Kd.C_below CT.out hb); have n2_ := Lib.hid (Kd.C_below CU.out hb); have n3_ := Lib.hid (Kd.C_below CV.out hb); have n4_ := Lib.hid (blk_below TB.out hb); have n5_ := Lib.hid (blk_below UB.out hb); have n6_ := Lib.hid (blk_below RB.out hb)
  clear HB CT CU CV TB UB RB hb t0 t1 t2 t3 u0 u1 u2 u3 m0 m1 m2 m3
  have HB := n0_; have CT := n1_; have CU := n2_; have CV := n3_; have TB := n4_; have UB := n5_; have RB := n6_
  clear n0_ n1_ n2_ n3_ n4_ n5_ n6_
  have t0 := blk_cell TB.out 0; have t1 := blk_cell TB.out 1; have t2 := blk_cell TB.out 2; have t3 := blk_cell TB.out 3
  have u0 := blk_cell UB.out 0; have u1 := blk_cell UB.out 1; have u2 := blk_cell UB.out 2; have u3 := blk_cell UB.out 3
  have m0 := blk_cell RB.out 4; have m1 := blk_cell RB.out 5; have m2 := blk_cell RB.out 6; have m3 := blk_cell RB.out 7
  simp only [List.getElem?_toArray, List.getElem?_cons_zero, List.getElem?_cons_succ] at t0 t1 t2 t3 u0 u1 u2 u3 m0 m1 m2 m3
  go_wp2_with fail
  refine (CoreText.text_any eI (by decide) (ok_I) (by rw [text_I]; decide) _ _ _ CN.out hc5 (HT.out.on HB.out).here).mono ?_
  rintro e w5 ⟨rfl, hb⟩
  rw [text_I]
  have n0_ := Lib.hid (below_step HB.out hb); have n1_ := Lib.hid (Kd.C_below CT.out hb); have n2_ := Lib.hid (Kd.C_below CU.out hb); have n3_ := Lib.hid (Kd.C_below CV.out hb); have n4_ := Lib.hid (blk_below TB.out hb); have n5_ := Lib.hid (blk_below UB.out hb); have n6_ := Lib.hid (blk_below RB.out hb)
  clear HB CT CU CV TB UB RB hb t0 t1 t2 t3 u0 u1 u2 u3 m0 m1 m2 m3
  have HB := n0_; have CT := n1_; have CU := n2_; have CV := n3_; have TB := n4_; have UB := n5_; have RB := n6_
  clear n0_ n1_ n2_ n3_ n4_ n5_ n6_
  have t0 := blk_cell TB.out 0; have t1 := blk_cell TB.out 1; have t2 := blk_cell TB.out 2; have t3 := blk_cell TB.out 3
  have u0 := blk_cell UB.out 0; have u1 := blk_cell UB.out 1; have u2 := blk_cell UB.out 2; have u3 := blk_cell UB.out 3
  have m0 := blk_cell RB.out 4; have m1 := blk_cell RB.out 5; have m2 := blk_cell RB.out 6; have m3 := blk_cell RB.out 7
  simp only [List.getElem?_toArray, List.getElem?_cons_zero, List.getElem?_cons_succ] at t0 t1 t2 t3 u0 u1 u2 u3 m0 m1 m2 m3
  clear CN
  go_wp2_with fail
  refine (CoreText.text_any eT (by decide) (ok_T) (by rw [text_T]; decide) _ _ _ CT.out (by decide) (HT.out.on HB.out).here).mono ?_
  rintro e w5 ⟨rfl, hb⟩
  rw [text_T]
  have n0_ := Lib.hid (below_step HB.out hb); have n1_ := Lib.hid (Kd.C_below CT.out hb); have n2_ := Lib.hid (Kd.C_below CU.out hb); have n3_ := Lib.hid (Kd.C_below CV.out hb); have n4_ := Lib.hid (blk_below TB.out hb); have n5_ := Lib.hid (blk_below UB.out hb); have n6_ := Lib.hid (blk_below RB.out hb)
  clear HB CT CU CV TB UB RB hb t0 t1 t2 t3 u0 u1 u2 u3 m0 m1 m2 m3
  have HB := n0_; have CT := n1_; have CU := n2_; have CV := n3_; have TB := n4_; have UB := n5_; have RB := n6_
  clear n0_ n1_ n2_ n3_ n4_ n5_ n6_
  have t0 := blk_cell TB.out 0; have t1 := blk_cell TB.out 1; have t2 := blk_cell TB.out 2; have t3 := blk_cell TB.out 3
  have u0 := blk_cell UB.out 0; have u1 := blk_cell UB.out 1; have u2 := blk_cell UB.out 2; have u3 := blk_cell UB.out 3
  have m0 := blk_cell RB.out 4; have m1 := blk_cell RB.out 5; have m2 := blk_cell RB.out 6; have m3 := blk_cell RB.out 7
  simp only [List.getElem?_toArray, List.getElem?_cons_zero, List.getElem?_cons_succ] at t0 t1 t2 t3 u0 u1 u2 u3 m0 m1 m2 m3
  go_wp2_with fail
  refine (CoreText.text_any eU (by decide) (ok_U) (by rw [text_U]; decide) _ _ _ CU.out (by decide) (HT.out.on HB.out).here).mono ?_
  rintro e w5 ⟨rfl, hb⟩
  rw [text_U]
  have n0_ := Lib.hid (below_step HB.out hb); have n1_ := Lib.hid (Kd.C_below CT.out hb); have n2_ := Lib.hid (Kd.C_below CU.out hb); have n3_ := Lib.hid (Kd.C_below CV.out hb); have n4_ := Lib.hid (blk_below TB.out hb); have n5_ := Lib.hid (blk_below UB.out hb); have n6_ := Lib.hid (blk_below RB.out hb)
  clear HB CT CU CV TB UB RB hb t0 t1 t2 t3 u0 u1 u2 u3 m0 m1 m2 m3
  have HB := n0_; have CT := n1_; have CU := n2_; have CV := n3_; have TB := n4_; have UB := n5_; have RB := n6_
  clear n0_ n1_ n2_ n3_ n4_ n5_ n6_
  have t0 := blk_cell TB.out 0; have t1 := blk_cell TB.out 1; have t2 := blk_cell TB.out 2; have t3 := blk_cell TB.out 3
  have u0 := blk_cell UB.out 0; have u1 := blk_cell UB.out 1; have u2 := blk_cell UB.out 2; have u3 := blk_cell UB.out 3
  have m0 := blk_cell RB.out 4; have m1 := blk_cell RB.out 5; have m2 := blk_cell RB.out 6; have m3 := blk_cell RB.out 7
  simp only [List.getElem?_toArray, List.getElem?_cons_zero, List.getElem?_cons_succ] at t0 t1 t2 t3 u0 u1 u2 u3 m0 m1 m2 m3
  go_wp2_with fail
  refine (CoreMay.may_any 9 eU (by decide) (by decide) (0) (by decide) (by decide) _ _ _ CU.out (by decide)).mono ?_
  rintro e w5 ⟨rfl, hb⟩
  rw [show may eU (0) = true by kernel_rfl]
  have n0_ := Lib.hid (below_step HB.out hb); have n1_ := Lib.hid (Kd.C_below CT.out hb); have n2_ := Lib.hid (Kd.C_below CU.out hb); have n3_ := Lib.hid (Kd.C_below CV.out hb); have n4_ := Lib.hid (blk_below TB.out hb); have n5_ := Lib.hid (blk_below UB.out hb); have n6_ := Lib.hid (blk_below RB.out hb)
  clear HB CT CU CV TB UB RB hb t0 t1 t2 t3 u0 u1 u2 u3 m0 m1 m2 m3
  have HB := n0_; have CT := n1_; have CU := n2_; have CV := n3_; have TB := n4_; have UB := n5_; have RB := n6_
  clear n0_ n1_ n2_ n3_ n4_ n5_ n6_
  have t0 := blk_cell TB.out 0; have t1 := blk_cell TB.out 1; have t2 := blk_cell TB.out 2; have t3 := blk_cell TB.out 3
  have u0 := blk_cell UB.out 0; have u1 := blk_cell UB.out 1; have u2 := blk_cell UB.out 2; have u3 := blk_cell UB.out 3
  have m0 := blk_cell RB.out 4; have m1 := blk_cell RB.out 5; have m2 := blk_cell RB.out 6; have m3 := blk_cell RB.out 7
  simp only [List.getElem?_toArray, List.getElem?_cons_zero, List.getElem?_cons_succ] at t0 t1 t2 t3 u0 u1 u2 u3 m0 m1 m2 m3
  go_wp2_with fail
  refine (CoreMay.may_any 9 ⟨6, 2, ⟨#[65]⟩, [⟨1, 1, ⟨#[]⟩, []⟩]⟩ (by decide) (by decide) (5) (by decide) (by decide) _ _ _ CV.out (by decide)).mono ?_
  rintro e w5 ⟨rfl, hb⟩
  rw [show may ⟨6, 2, ⟨#[65]⟩, [⟨1, 1, ⟨#[]⟩, []⟩]⟩ (5) = false by kernel_rfl]
  have n0_ := Lib.hid (below_step HB.out hb); have n1_ := Lib.hid (Kd.C_below CT.out hb); have n2_ := Lib.hid (Kd.C_below CU.out hb); have n3_ := Lib.hid (Kd.C_below CV.out hb); have n4_ := Lib.hid (blk_below TB.out hb); have n5_ := Lib.hid (blk_below UB.out hb); have n6_ := Lib.hid (blk_below RB.out hb)
  clear HB CT CU CV TB UB RB hb t0 t1 t2 t3 u0 u1 u2 u3 m0 m1 m2 m3
  have HB := n0_; have CT := n1_; have CU := n2_; have CV := n3_; have TB := n4_; have UB := n5_; have RB := n6_
  clear n0_ n1_ n2_ n3_ n4_ n5_ n6_
  have t0 := blk_cell TB.out 0; have t1 := blk_cell TB.out 1; have t2 := blk_cell TB.out 2; have t3 := blk_cell TB.out 3
  have u0 := blk_cell UB.out 0; have u1 := blk_cell UB.out 1; have u2 := blk_cell UB.out 2; have u3 := blk_cell UB.out 3
  have m0 := blk_cell RB.out 4; have m1 := blk_cell RB.out 5; have m2 := blk_cell RB.out 6; have m3 := blk_cell RB.out 7
  simp only [List.getElem?_toArray, List.getElem?_cons_zero, List.getElem?_cons_succ] at t0 t1 t2 t3 u0 u1 u2 u3 m0 m1 m2 m3
  go_wp2_with fail
  refine (gossamerlaw06_id.calls _ _ _ _ _ rfl).mono ?_
  rintro e w5 ⟨v1, rfl, r1, hb⟩
  obtain ⟨A5, c5, rfl, hc5, cc5⟩ := Kd.R_reads r1
  have CN := Lib.hid cc5
  clear cc5 r1
  have n0_ := Lib.hid (below_step HB.out hb); have n1_ := Lib.hid (Kd.C_below CT.out hb); have n2_ := Lib.hid (Kd.C_below CU.out hb); have n3_ := Lib.hid (Kd.C_below CV.out hb); have n4_ := Lib.hid (blk_below TB.out hb); have n5_ := Lib.hid (blk_below UB.out hb); have n6_ := Lib.hid (blk_below RB.out hb)
  clear HB CT CU CV TB UB RB hb t0 t1 t2 t3 u0 u1 u2 u3 m0 m1 m2 m3
  have HB := n0_; have CT := n1_; have CU := n2_; have CV := n3_; have TB := n4_; have UB := n5_; have RB := n6_
  clear n0_ n1_ n2_ n3_ n4_ n5_ n6_
  have t0 := blk_cell TB.out 0; have t1 := blk_cell TB.out 1; have t2 := blk_cell TB.out 2; have t3 := blk_cell TB.out 3
  have u0 := blk_cell UB.out 0; have u1 := blk_cell UB.out 1; have u2 := blk_cell UB.out 2; have u3 := blk_cell UB.out 3
  have m0 := blk_cell RB.out 4; have m1 := blk_cell RB.out 5; have m2 := blk_cell RB.out 6; have m3 := blk_cell RB.out 7
  simp only [List.getElem?_toArray, List.getElem?_cons_zero, List.getElem?_cons_succ] at t0 t1 t2 t3 u0 u1 u2 u3 m0 m1 m2 m3
  have hidx := CN.out
  obtain ⟨ad7, A7, c7, rfl, i0, i1, i2, i3, hl7, hc7⟩ := at_T24 hidx (0 : Int) (by omega) (by decide)
  have had : ad7.add ((0 : Int).toNat * 4) = ad7 := by simp [Addr.add]
  rw [had] at i0 i1 i2 i3
  have hr7 : rd_T24 ([⟨1, 0, ⟨#[]⟩, []⟩] : List S24) (0 : Int) = ⟨1, 0, ⟨#[]⟩, []⟩ := rfl
  rw [hr7] at i0 i1 i2 i3 hl7 hc7
  have C7 := Lib.hid hc7
  have hfd := field3 2 0 ⟨#[]⟩ (some ad7) 1 c5
  clear hidx had hr7 hc7
  go_wp2_with fail
  refine (CoreMay.may_any 9 ⟨1, 0, ⟨#[]⟩, []⟩ (by decide) (by decide) (0) (by decide) (by decide) _ _ _ C7.out hl7).mono ?_
  rintro e w5 ⟨rfl, hb⟩
  rw [show may ⟨1, 0, ⟨#[]⟩, []⟩ (0) = false by kernel_rfl]
  clear i0 i1 i2 i3 hfd
  have n0_ := Lib.hid (below_step HB.out hb); have n1_ := Lib.hid (Kd.C_below CT.out hb); have n2_ := Lib.hid (Kd.C_below CU.out hb); have n3_ := Lib.hid (Kd.C_below CV.out hb); have n4_ := Lib.hid (blk_below TB.out hb); have n5_ := Lib.hid (blk_below UB.out hb); have n6_ := Lib.hid (blk_below RB.out hb)
  clear HB CT CU CV TB UB RB hb t0 t1 t2 t3 u0 u1 u2 u3 m0 m1 m2 m3
  have HB := n0_; have CT := n1_; have CU := n2_; have CV := n3_; have TB := n4_; have UB := n5_; have RB := n6_
  clear n0_ n1_ n2_ n3_ n4_ n5_ n6_
  have t0 := blk_cell TB.out 0; have t1 := blk_cell TB.out 1; have t2 := blk_cell TB.out 2; have t3 := blk_cell TB.out 3
  have u0 := blk_cell UB.out 0; have u1 := blk_cell UB.out 1; have u2 := blk_cell UB.out 2; have u3 := blk_cell UB.out 3
  have m0 := blk_cell RB.out 4; have m1 := blk_cell RB.out 5; have m2 := blk_cell RB.out 6; have m3 := blk_cell RB.out 7
  simp only [List.getElem?_toArray, List.getElem?_cons_zero, List.getElem?_cons_succ] at t0 t1 t2 t3 u0 u1 u2 u3 m0 m1 m2 m3
  clear CN C7
  go_wp2_with fail
  refine (gossamerlaw06_id.calls _ _ _ _ _ rfl).mono ?_
  rintro e w5 ⟨v1, rfl, r1, hb⟩
  obtain ⟨A5, c5, rfl, hc5, cc5⟩ := Kd.R_reads r1
  have CN := Lib.hid cc5
  clear cc5 r1
  have n0_ := Lib.hid (below_step HB.out hb); have n1_ := Lib.hid (Kd.C_below CT.out hb); have n2_ := Lib.hid (Kd.C_below CU.out hb); have n3_ := Lib.hid (Kd.C_below CV.out hb); have n4_ := Lib.hid (blk_below TB.out hb); have n5_ := Lib.hid (blk_below UB.out hb); have n6_ := Lib.hid (blk_below RB.out hb)
  clear HB CT CU CV TB UB RB hb t0 t1 t2 t3 u0 u1 u2 u3 m0 m1 m2 m3
  have HB := n0_; have CT := n1_; have CU := n2_; have CV := n3_; have TB := n4_; have UB := n5_; have RB := n6_
  clear n0_ n1_ n2_ n3_ n4_ n5_ n6_
  have t0 := blk_cell TB.out 0; have t1 := blk_cell TB.out 1; have t2 := blk_cell TB.out 2; have t3 := blk_cell TB.out 3
  have u0 := blk_cell UB.out 0; have u1 := blk_cell UB.out 1; have u2 := blk_cell UB.out 2; have u3 := blk_cell UB.out 3
  have m0 := blk_cell RB.out 4; have m1 := blk_cell RB.out 5; have m2 := blk_cell RB.out 6; have m3 := blk_cell RB.out 7
  simp only [List.getElem?_toArray, List.getElem?_cons_zero, List.getElem?_cons_succ] at t0 t1 t2 t3 u0 u1 u2 u3 m0 m1 m2 m3
  have hidx := CN.out
  obtain ⟨ad7, A7, c7, rfl, i0, i1, i2, i3, hl7, hc7⟩ := at_T24 hidx (0 : Int) (by omega) (by decide)
  have had : ad7.add ((0 : Int).toNat * 4) = ad7 := by simp [Addr.add]
  rw [had] at i0 i1 i2 i3
  have hr7 : rd_T24 ([⟨1, 0, ⟨#[]⟩, []⟩] : List S24) (0 : Int) = ⟨1, 0, ⟨#[]⟩, []⟩ := rfl
  rw [hr7] at i0 i1 i2 i3 hl7 hc7
  have C7 := Lib.hid hc7
  have hfd := field3 2 0 ⟨#[]⟩ (some ad7) 1 c5
  clear hidx had hr7 hc7
  go_wp2_with fail
  refine (CoreMay.may_any 9 ⟨1, 0, ⟨#[]⟩, []⟩ (by decide) (by decide) (1) (by decide) (by decide) _ _ _ C7.out hl7).mono ?_
  rintro e w5 ⟨rfl, hb⟩
  rw [show may ⟨1, 0, ⟨#[]⟩, []⟩ (1) = true by kernel_rfl]
  clear i0 i1 i2 i3 hfd
  have n0_ := Lib.hid (below_step HB.out hb); have n1_ := Lib.hid (Kd.C_below CT.out hb); have n2_ := Lib.hid (Kd.C_below CU.out hb); have n3_ := Lib.hid (Kd.C_below CV.out hb); have n4_ := Lib.hid (blk_below TB.out hb); have n5_ := Lib.hid (blk_below UB.out hb); have n6_ := Lib.hid (blk_below RB.out hb)
  clear HB CT CU CV TB UB RB hb t0 t1 t2 t3 u0 u1 u2 u3 m0 m1 m2 m3
  have HB := n0_; have CT := n1_; have CU := n2_; have CV := n3_; have TB := n4_; have UB := n5_; have RB := n6_
  clear n0_ n1_ n2_ n3_ n4_ n5_ n6_
  have t0 := blk_cell TB.out 0; have t1 := blk_cell TB.out 1; have t2 := blk_cell TB.out 2; have t3 := blk_cell TB.out 3
  have u0 := blk_cell UB.out 0; have u1 := blk_cell UB.out 1; have u2 := blk_cell UB.out 2; have u3 := blk_cell UB.out 3
  have m0 := blk_cell RB.out 4; have m1 := blk_cell RB.out 5; have m2 := blk_cell RB.out 6; have m3 := blk_cell RB.out 7
  simp only [List.getElem?_toArray, List.getElem?_cons_zero, List.getElem?_cons_succ] at t0 t1 t2 t3 u0 u1 u2 u3 m0 m1 m2 m3
  clear CN C7
  go_wp2_with fail
  refine (gossamerlaw06_id.calls _ _ _ _ _ rfl).mono ?_
  rintro e w5 ⟨v1, rfl, r1, hb⟩
  obtain ⟨A5, c5, rfl, hc5, cc5⟩ := Kd.R_reads r1
  have CN := Lib.hid cc5
  clear cc5 r1
  have n0_ := Lib.hid (below_step HB.out hb); have n1_ := Lib.hid (Kd.C_below CT.out hb); have n2_ := Lib.hid (Kd.C_below CU.out hb); have n3_ := Lib.hid (Kd.C_below CV.out hb); have n4_ := Lib.hid (blk_below TB.out hb); have n5_ := Lib.hid (blk_below UB.out hb); have n6_ := Lib.hid (blk_below RB.out hb)
  clear HB CT CU CV TB UB RB hb t0 t1 t2 t3 u0 u1 u2 u3 m0 m1 m2 m3
  have HB := n0_; have CT := n1_; have CU := n2_; have CV := n3_; have TB := n4_; have UB := n5_; have RB := n6_
  clear n0_ n1_ n2_ n3_ n4_ n5_ n6_
  have t0 := blk_cell TB.out 0; have t1 := blk_cell TB.out 1; have t2 := blk_cell TB.out 2; have t3 := blk_cell TB.out 3
  have u0 := blk_cell UB.out 0; have u1 := blk_cell UB.out 1; have u2 := blk_cell UB.out 2; have u3 := blk_cell UB.out 3
  have m0 := blk_cell RB.out 4; have m1 := blk_cell RB.out 5; have m2 := blk_cell RB.out 6; have m3 := blk_cell RB.out 7
  simp only [List.getElem?_toArray, List.getElem?_cons_zero, List.getElem?_cons_succ] at t0 t1 t2 t3 u0 u1 u2 u3 m0 m1 m2 m3
  go_wp2_with fail
  refine (CoreMay.may_any 9 eI (by decide) (by decide) (-1) (by decide) (by decide) _ _ _ CN.out hc5).mono ?_
  rintro e w5 ⟨rfl, hb⟩
  rw [show may eI (-1) = false by kernel_rfl]
  have n0_ := Lib.hid (below_step HB.out hb); have n1_ := Lib.hid (Kd.C_below CT.out hb); have n2_ := Lib.hid (Kd.C_below CU.out hb); have n3_ := Lib.hid (Kd.C_below CV.out hb); have n4_ := Lib.hid (blk_below TB.out hb); have n5_ := Lib.hid (blk_below UB.out hb); have n6_ := Lib.hid (blk_below RB.out hb)
  clear HB CT CU CV TB UB RB hb t0 t1 t2 t3 u0 u1 u2 u3 m0 m1 m2 m3
  have HB := n0_; have CT := n1_; have CU := n2_; have CV := n3_; have TB := n4_; have UB := n5_; have RB := n6_
  clear n0_ n1_ n2_ n3_ n4_ n5_ n6_
  have t0 := blk_cell TB.out 0; have t1 := blk_cell TB.out 1; have t2 := blk_cell TB.out 2; have t3 := blk_cell TB.out 3
  have u0 := blk_cell UB.out 0; have u1 := blk_cell UB.out 1; have u2 := blk_cell UB.out 2; have u3 := blk_cell UB.out 3
  have m0 := blk_cell RB.out 4; have m1 := blk_cell RB.out 5; have m2 := blk_cell RB.out 6; have m3 := blk_cell RB.out 7
  simp only [List.getElem?_toArray, List.getElem?_cons_zero, List.getElem?_cons_succ] at t0 t1 t2 t3 u0 u1 u2 u3 m0 m1 m2 m3
  clear CN
  go_wp2_with fail
  refine (core_Size.calls 20 5 0 ⟨#[]⟩ _ _ eU.f3 7 _ CU.out (by decide) (by kernel_rfl)).mono ?_
  rintro e w5 ⟨rfl, hb⟩
  have n0_ := Lib.hid (below_step HB.out hb); have n1_ := Lib.hid (Kd.C_below CT.out hb); have n2_ := Lib.hid (Kd.C_below CU.out hb); have n3_ := Lib.hid (Kd.C_below CV.out hb); have n4_ := Lib.hid (blk_below TB.out hb); have n5_ := Lib.hid (blk_below UB.out hb); have n6_ := Lib.hid (blk_below RB.out hb)
  clear HB CT CU CV TB UB RB hb t0 t1 t2 t3 u0 u1 u2 u3 m0 m1 m2 m3
  have HB := n0_; have CT := n1_; have CU := n2_; have CV := n3_; have TB := n4_; have UB := n5_; have RB := n6_
  clear n0_ n1_ n2_ n3_ n4_ n5_ n6_
  have t0 := blk_cell TB.out 0; have t1 := blk_cell TB.out 1; have t2 := blk_cell TB.out 2; have t3 := blk_cell TB.out 3
  have u0 := blk_cell UB.out 0; have u1 := blk_cell UB.out 1; have u2 := blk_cell UB.out 2; have u3 := blk_cell UB.out 3
  have m0 := blk_cell RB.out 4; have m1 := blk_cell RB.out 5; have m2 := blk_cell RB.out 6; have m3 := blk_cell RB.out 7
  simp only [List.getElem?_toArray, List.getElem?_cons_zero, List.getElem?_cons_succ] at t0 t1 t2 t3 u0 u1 u2 u3 m0 m1 m2 m3
  go_wp2_with fail
  refine (core_Depth.calls 20 5 0 ⟨#[]⟩ _ _ eU.f3 4 _ CU.out (by decide) (by kernel_rfl)).mono ?_
  rintro e w5 ⟨rfl, hb⟩
  have n0_ := Lib.hid (below_step HB.out hb); have n1_ := Lib.hid (Kd.C_below CT.out hb); have n2_ := Lib.hid (Kd.C_below CU.out hb); have n3_ := Lib.hid (Kd.C_below CV.out hb); have n4_ := Lib.hid (blk_below TB.out hb); have n5_ := Lib.hid (blk_below UB.out hb); have n6_ := Lib.hid (blk_below RB.out hb)
  clear HB CT CU CV TB UB RB hb t0 t1 t2 t3 u0 u1 u2 u3 m0 m1 m2 m3
  have HB := n0_; have CT := n1_; have CU := n2_; have CV := n3_; have TB := n4_; have UB := n5_; have RB := n6_
  clear n0_ n1_ n2_ n3_ n4_ n5_ n6_
  have t0 := blk_cell TB.out 0; have t1 := blk_cell TB.out 1; have t2 := blk_cell TB.out 2; have t3 := blk_cell TB.out 3
  have u0 := blk_cell UB.out 0; have u1 := blk_cell UB.out 1; have u2 := blk_cell UB.out 2; have u3 := blk_cell UB.out 3
  have m0 := blk_cell RB.out 4; have m1 := blk_cell RB.out 5; have m2 := blk_cell RB.out 6; have m3 := blk_cell RB.out 7
  simp only [List.getElem?_toArray, List.getElem?_cons_zero, List.getElem?_cons_succ] at t0 t1 t2 t3 u0 u1 u2 u3 m0 m1 m2 m3
  go_wp2_with fail
  refine (CoreSm.same_any 9 eT (by decide) (by decide) eT _ _ _ _ _ CT.out (by decide) CT.out (by decide)).mono ?_
  rintro e w5 ⟨rfl, hb⟩
  rw [show same eT eT = true by kernel_rfl]
  have n0_ := Lib.hid (below_step HB.out hb); have n1_ := Lib.hid (Kd.C_below CT.out hb); have n2_ := Lib.hid (Kd.C_below CU.out hb); have n3_ := Lib.hid (Kd.C_below CV.out hb); have n4_ := Lib.hid (blk_below TB.out hb); have n5_ := Lib.hid (blk_below UB.out hb); have n6_ := Lib.hid (blk_below RB.out hb)
  clear HB CT CU CV TB UB RB hb t0 t1 t2 t3 u0 u1 u2 u3 m0 m1 m2 m3
  have HB := n0_; have CT := n1_; have CU := n2_; have CV := n3_; have TB := n4_; have UB := n5_; have RB := n6_
  clear n0_ n1_ n2_ n3_ n4_ n5_ n6_
  have t0 := blk_cell TB.out 0; have t1 := blk_cell TB.out 1; have t2 := blk_cell TB.out 2; have t3 := blk_cell TB.out 3
  have u0 := blk_cell UB.out 0; have u1 := blk_cell UB.out 1; have u2 := blk_cell UB.out 2; have u3 := blk_cell UB.out 3
  have m0 := blk_cell RB.out 4; have m1 := blk_cell RB.out 5; have m2 := blk_cell RB.out 6; have m3 := blk_cell RB.out 7
  simp only [List.getElem?_toArray, List.getElem?_cons_zero, List.getElem?_cons_succ] at t0 t1 t2 t3 u0 u1 u2 u3 m0 m1 m2 m3
  go_wp2_with fail
  refine (CoreSm.same_any 9 eT (by decide) (by decide) eU _ _ _ _ _ CT.out (by decide) CU.out (by decide)).mono ?_
  rintro e w5 ⟨rfl, hb⟩
  rw [show same eT eU = false by kernel_rfl]
  have n0_ := Lib.hid (below_step HB.out hb); have n1_ := Lib.hid (Kd.C_below CT.out hb); have n2_ := Lib.hid (Kd.C_below CU.out hb); have n3_ := Lib.hid (Kd.C_below CV.out hb); have n4_ := Lib.hid (blk_below TB.out hb); have n5_ := Lib.hid (blk_below UB.out hb); have n6_ := Lib.hid (blk_below RB.out hb)
  clear HB CT CU CV TB UB RB hb t0 t1 t2 t3 u0 u1 u2 u3 m0 m1 m2 m3
  have HB := n0_; have CT := n1_; have CU := n2_; have CV := n3_; have TB := n4_; have UB := n5_; have RB := n6_
  clear n0_ n1_ n2_ n3_ n4_ n5_ n6_
  have t0 := blk_cell TB.out 0; have t1 := blk_cell TB.out 1; have t2 := blk_cell TB.out 2; have t3 := blk_cell TB.out 3
  have u0 := blk_cell UB.out 0; have u1 := blk_cell UB.out 1; have u2 := blk_cell UB.out 2; have u3 := blk_cell UB.out 3
  have m0 := blk_cell RB.out 4; have m1 := blk_cell RB.out 5; have m2 := blk_cell RB.out 6; have m3 := blk_cell RB.out 7
  simp only [List.getElem?_toArray, List.getElem?_cons_zero, List.getElem?_cons_succ] at t0 t1 t2 t3 u0 u1 u2 u3 m0 m1 m2 m3
  go_wp2_with fail
  refine (CoreText.text_any eF (by decide) (ok_F) (by rw [text_F]; decide) _ _ _ (C0 _) (Nat.le_refl _) (HT.out.on HB.out).here).mono ?_
  rintro e w5 ⟨rfl, hb⟩
  rw [text_F]
  have HB9 := Lib.hid (below_step HB.out hb)
  clear hb
  go_wp2_with fail
  go_ret
  exact ⟨rfl, HB9.out⟩
end CoreFix
end Go.Proofs.YtlokmdjhpaimbaaDoor.Pure
