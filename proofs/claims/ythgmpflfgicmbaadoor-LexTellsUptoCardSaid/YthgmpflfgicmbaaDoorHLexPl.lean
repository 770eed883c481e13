/- The walk of the reference's Placeless. -/
import Derived.Test.YthgmpflfgicmbaaDoorHLexAll
namespace Go.Proofs.YthgmpflfgicmbaaDoor.HLexC
open Go Go.RowKit Go.Lib Go.Proofs Go.Proofs.YthgmpflfgicmbaaDoorW.PrintWords Go.Proofs.YthgmpflfgicmbaaDoorW.PrintLast Go.Proofs.YthgmpflfgicmbaaDoorW.PrintMore Go.Proofs.YthgmpflfgicmbaaDoor.Q
set_option linter.unusedVariables false
set_option linter.unusedSimpArgs false
def pl0 (x : S33) : S33 := ⟨x.f0, x.f1, x.f2, 0⟩
set_option maxRecDepth 100000 in
theorem placeless_any (A0 : Option Addr) (c0 : Nat) (l0 : List S33) (w : World) (hr0 : Kd.C k33 w A0 l0.length l0) (hc0 : l0.length ≤ c0) (hlen : l0.length ≤ 1000000) :
    Calls Tryd.prog 17 #[.slice A0 l0.length c0] w fun e w' => ∃ v, e = .returned v ∧ Kd.R k33 33 w' w.heap.size (fun _ => True) v (l0.map pl0) ∧ Below w.heap.size w w' := by
  have HR0 := Lib.hid hr0; clear hr0
  have HBA := Lib.hid (Below.refl w.heap.size w)
  go_enter Tryd.func17, Tryd.ntmps17
  go_wp2_with (first | ((with_reducible refine gate_dst (N := 6) rfl ?_); refine Kd.R_lit k33 _ 33 ?hg (N := 6) ?hd (xs := ([] : List S33)) (inner := []) (ok := fun _ => True) (okp := fun _ => True) ?hr ?hp (fun _ hk => hk) trivial (Below.refl _ _) (Nat.le_refl _) (by simp) ?_; (case hd => rfl); (case hg => rfl); (case hr => first | (go_simp; done) | (go_simp; rfl)); (case hp => exact (Reps.none _ _)); intro vl w2 ho3 hb hg_ hnew_; clear hg_ hnew_; have HO := Lib.hid ho3; have HB := Lib.hid hb; clear ho3 hb))
  go_loopw [3, 4] (fun v3 i wr => ∃ k : Nat, k ≤ l0.length ∧ i = .int .i64 k ∧ Hid (Kd.R k33 33 wr w.heap.size (fun _ => True) v3 ((l0.take k).map pl0)) ∧ Hid (Below w.heap.size w wr)) (fun _ i _ => l0.length - (intOf i).toNat)
  case atStart => exact ⟨0, Nat.zero_le _, rfl, Lib.hid (by simpa using HO.out), HB⟩
  case round =>
    clear HO HB
    obtain ⟨k, hk, rfl, hro, hbl⟩ := hrel
    by_cases hlt : k < l0.length
    · obtain ⟨ad, rfl, x0, x1, x2, x3⟩ := at_T33 HR0.out (k : Int) (by omega) (by omega)
      have hbl' := hbl.out
      replace x0 := (hbl'.cell (World.block_lt_of_cell? w _ x0)).trans x0
      replace x1 := (hbl'.cell (World.block_lt_of_cell? w _ x1)).trans x1
      replace x2 := (hbl'.cell (World.block_lt_of_cell? w _ x2)).trans x2
      replace x3 := (hbl'.cell (World.block_lt_of_cell? w _ x3)).trans x3
      have hsz := hbl'.size
      clear hbl'
      simp only [Int.toNat_natCast] at x0 x1 x2 x3
      have hrk : rd_T33 l0 (k : Int) = l0[k] := by
        unfold rd_T33
        rw [Int.toNat_natCast, List.getD_eq_getElem?_getD, List.getElem?_eq_getElem hlt]; rfl
      rw [hrk] at x0 x1 x2 x3
      generalize hx : l0[k] = x at *
      have HX := Lib.hid hx
      clear hrk hx
      go_upto_region 6 with (fail)
      go_upto_region 7 with (fail)
      have hra := Kd.R_alloc hro.out (Obj.cells #[Value.int IntKind.i64 x.f0, Value.string x.f1, Value.int IntKind.i64 x.f2, Value.int IntKind.i64 0] 33)
      have hba := below_alloc hbl.out (Obj.cells #[Value.int IntKind.i64 x.f0, Value.string x.f1, Value.int IntKind.i64 x.f2, Value.int IntKind.i64 0] 33)
      have hlk : (((l0.take k).map pl0).length + 1) * 40 ≤ 140737488355328 := by rw [List.length_map, List.length_take]; omega
      have HRA := Lib.hid hra; have HBA2 := Lib.hid hba; have HLK := Lib.hid hlk; clear hra hba hlk
      go_wp2_with (at_builtin; go_loud (refine Kd.R_append k33 (w0 := w) w.heap.size rfl (.tmp 18) (.tmp 20) 22 33 (.agg #[(.int .i64 0), (.string ⟨#[]⟩), (.int .i64 0), (.int .i64 0)]) 40 rfl Tryd.underlying22 infoTok rfl (by decide) (by omega) u3 ((l0.take k).map pl0) (pl0 x) [.int .i64 x.f0, .string x.f1, .int .i64 x.f2, .int .i64 0] (fun _ => True) (fun _ => False) rfl (by first | (go_simp; done) | (go_simp; rfl)) ?aP (fun _ hk => hk.elim) (fun _ _ => trivial) ?aO ?aB ?aS ?aL ?_; (case aL => exact HLK.out); (case aP => exact k33_mkM _ _ _ (pl0 x)); (case aO => exact HRA.out); (case aB => exact HBA2.out); (case aS => simp; omega); intro v1 w5 ho hb hg hat; have HO := Lib.hid ho; have HB5 := Lib.hid hb; clear ho hb hg hat))
      go_roundw
      case rel =>
        refine ⟨k + 1, by omega, by go_num, Lib.hid ?_, HB5⟩
        have : (l0.take (k + 1)).map pl0 = (l0.take k).map pl0 ++ [pl0 x] := by
          rw [List.take_succ_eq_append_getElem hlt, List.map_append, HX.out]; rfl
        rw [this]
        exact HO.out
      case measure => simp [intOf]; omega
    · have hkl : k = l0.length := by omega
      subst hkl
      go_wp2_with fail
      go_ret
      exact ⟨_, rfl, by simpa using hro.out, hbl.out⟩
end Go.Proofs.YthgmpflfgicmbaaDoor.HLexC
