/- The walk of lex.Text. -/
import Derived.Test.YthgmpflfgicmbaaDoorHLexAll
import Derived.Lib.Join
namespace Go.Proofs.YthgmpflfgicmbaaDoor.HLexC
open Go Go.RowKit Go.Lib Go.Proofs Go.Proofs.YthgmpflfgicmbaaDoorW.PrintWords Go.Proofs.YthgmpflfgicmbaaDoorW.PrintLast Go.Proofs.YthgmpflfgicmbaaDoorW.PrintMore Go.Proofs.YthgmpflfgicmbaaDoor.Q
set_option linter.unusedVariables false
set_option linter.unusedSimpArgs false

theorem infoStr : (Tryd.prog.info? 9).map (fun i => (i.zero, i.size, i.bytes)) = some (some (.string ⟨#[]⟩), 1, 16) := by kernel_rfl
theorem str_M (w : World) (base : Nat) (ok : Nat → Prop) (x : ByteArray) : Kd.string.M w base ok x [.string x] := rfl
def joined (l : List ByteArray) : List UInt8 := Lib.join (l.map (·.data.toList)) [32]

theorem join_any {base : Nat} {ok : Nat → Prop} (v : Value) (xs : List ByteArray) (W : World) (h : Kd.R Kd.string 9 W base ok v xs) (hN : xs.length ≤ 1000000) (hlen : (joined xs).length ≤ 140737488355328) :
    Calls Tryd.prog 23 #[v, .string ⟨#[32]⟩] W fun e w' => e = .returned (.string ⟨(joined xs).toArray⟩) ∧ Below W.heap.size W w' := by
  obtain ⟨_, inner, hown, hrep⟩ := h
  rcases hown.2 with ⟨rfl, h0⟩ | ⟨g, cap, cur, rfl, hg, hh, hcap, hcm, hcz, htake⟩
  · have hx : xs = [] := List.eq_nil_of_length_eq_zero h0
    subst hx
    exact (Tryd.strings_Join_none none 0 ⟨#[32]⟩ W).mono fun e w' ⟨he, hw⟩ => ⟨he, hw ▸ Below.refl _ _⟩
  · have hcells : ∀ (j : Nat) x, xs[j]? = some x → W.cell? ⟨g, 0 + j, none⟩ = some (.string x) := by
      intro j x hx
      have hj := (List.getElem?_eq_some_iff.1 hx).1
      have h1 := hrep.2 j x hx
      have hsz1 : (Kd.string).sz = 1 := rfl
      have h2 : inner[j]? = some (.string x) := by
        have h3 : (inner.drop (j * 1)).take 1 = [.string x] := h1
        rw [Nat.mul_one] at h3
        have := congrArg (fun l => l[0]?) h3
        simpa using this
      rw [Nat.zero_add, World.ownsRow.cellAt hown j (by rw [hsz1]; omega)]
      exact h2
    exact Tryd.strings_Join g 0 cap xs ⟨#[32]⟩ W hcells (Array.getElem?_eq_some_iff.1 hh).1 (by omega) hcap hlen

set_option maxRecDepth 100000 in
set_option maxHeartbeats 1000000 in
theorem text_any (A0 : Option Addr) (c0 : Nat) (l0 : List S33) (w : World) (hr0 : Kd.C k33 w A0 l0.length l0) (hc0 : l0.length ≤ c0) (hlen : l0.length ≤ 1000000)
    (hj : (joined (l0.map (·.f1))).length ≤ 140737488355328) :
    Calls Tryd.prog 13 #[.slice A0 l0.length c0] w fun e w' => e = .returned (.string ⟨(joined (l0.map (·.f1))).toArray⟩) ∧ Below w.heap.size w w' := by
  have HR0 := Lib.hid hr0; clear hr0
  have HJ := Lib.hid hj; clear hj
  go_enter Tryd.func13, Tryd.ntmps13
  go_wp2_with fail
  go_loopw [3, 8] (fun v3 i wr => ∃ k : Nat, k ≤ l0.length ∧ i = .int .i64 k ∧ Hid (Kd.R Kd.string 9 wr w.heap.size (fun _ => True) v3 ((l0.take k).map (·.f1))) ∧ Hid (Below w.heap.size w wr)) (fun _ i _ => l0.length - (intOf i).toNat)
  case atStart => exact ⟨0, Nat.zero_le _, rfl, Lib.hid (Kd.R_nil _ _ _ _ _), Lib.hid (Below.refl _ _)⟩
  case round =>
    obtain ⟨k, hk, rfl, hro, hbl⟩ := hrel
    by_cases hlt : k < l0.length
    · obtain ⟨ad, rfl, x0, x1, x2, x3⟩ := at_T33 HR0.out (k : Int) (by omega) (by omega)
      have hbl' := hbl.out
      replace x0 := (hbl'.cell (World.block_lt_of_cell? w _ x0)).trans x0
      replace x1 := (hbl'.cell (World.block_lt_of_cell? w _ x1)).trans x1
      replace x2 := (hbl'.cell (World.block_lt_of_cell? w _ x2)).trans x2
      replace x3 := (hbl'.cell (World.block_lt_of_cell? w _ x3)).trans x3
      have hsz := hbl'.size
      clear hbl'
      simp only [Int.toNat_natCast] at x0 x1 x2 x3
      have hrk : rd_T33 l0 (k : Int) = l0[k] := by
        unfold rd_T33
        rw [Int.toNat_natCast, List.getD_eq_getElem?_getD, List.getElem?_eq_getElem hlt]; rfl
      rw [hrk] at x0 x1 x2 x3
      generalize hx : l0[k] = x at *
      have HX := Lib.hid hx
      clear hrk hx
      have hra := Kd.R_alloc hro.out (Obj.cells #[Value.int IntKind.i64 x.f0, Value.string x.f1, Value.int IntKind.i64 x.f2, Value.int IntKind.i64 x.f3] 33)
      have hba := below_alloc hbl.out (Obj.cells #[Value.int IntKind.i64 x.f0, Value.string x.f1, Value.int IntKind.i64 x.f2, Value.int IntKind.i64 x.f3] 33)
      have hlk : (((l0.take k).map (·.f1)).length + 1) * 16 ≤ 140737488355328 := by rw [List.length_map, List.length_take]; omega
      have HRA := Lib.hid hra; have HBA := Lib.hid hba; have HLK := Lib.hid hlk; clear hra hba hlk
      go_upto_region 5 with (fail)
      go_upto_region 6 with (at_builtin; refine Kd.R_append Kd.string (w0 := w) w.heap.size rfl (.tmp 12) (.tmp 15) 44 9 (.string ⟨#[]⟩) 16 rfl Tryd.underlying44 infoStr rfl (by decide) (by omega) u3 ((l0.take k).map (·.f1)) x.f1 [.string x.f1] (fun _ => True) (fun _ => False) rfl (by first | (go_simp; done) | (go_simp; rfl)) ?aP (fun _ hk => hk.elim) ?aF ?aO ?aB ?aS ?aL ?_; (case aL => exact HLK.out); (case aP => exact str_M _ _ _ _); (case aF => exact fun _ _ => trivial); (case aO => exact HRA.out); (case aB => exact HBA.out); (case aS => simp; omega); intro v1 w5 ho hb hg hat; have HO := Lib.hid ho; have HB5 := Lib.hid hb; clear ho hb hg hat)
      go_wp2_with fail
      go_roundw
      case rel =>
        refine ⟨k + 1, by omega, by go_num, Lib.hid ?_, HB5⟩
        have : (l0.take (k + 1)).map (·.f1) = (l0.take k).map (·.f1) ++ [x.f1] := by
          rw [List.take_succ_eq_append_getElem hlt, List.map_append, HX.out]; rfl
        rw [this]
        exact HO.out
      case measure => simp [intOf]; omega
    · have hkl : k = l0.length := by omega
      subst hkl
      have hrf := hro.out
      rw [List.take_length] at hrf
      have HJA := Lib.hid (join_any u3 (l0.map (·.f1)) wr hrf (by rw [List.length_map]; exact hlen) HJ.out)
      clear hrf
      go_wp2_with (go_at_call 23; refine HJA.out.mono ?_; rintro e w' ⟨rfl, hbj⟩)
      go_ret
      exact ⟨rfl, below_step hbl.out hbj⟩
end Go.Proofs.YthgmpflfgicmbaaDoor.HLexC
