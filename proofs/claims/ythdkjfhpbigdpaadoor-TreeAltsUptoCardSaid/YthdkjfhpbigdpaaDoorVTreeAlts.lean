/- Proved: for every input whose reading is of bulk at most 1048576, TreeAlts returns true, without a panic, and leaves its arguments as they were: the row and its tied card. Conditions: the bulk; the listed package variables read as the program's text sets them (the card ties them). -/
import Derived.Test.YthdkjfhpbigdpaaDoorTie
import Derived.Test.YthdkjfhpbigdpaaDoorCards
import Derived.Test.YthdkjfhpbigdpaaDoorKTreeAlts4
import Derived.ProofKit
import Derived.OpenShut
import Derived.LaidMore
import Derived.Lay
import Derived.SevenTiedAt
import Derived.Stop.Joined
import Derived.Handed
import Derived.LaidLaws
import Derived.SizedLaws
import Derived.Carry
import Derived.Deep.DeepHandedRow
namespace Go.Proofs.YthdkjfhpbigdpaaDoor
open Go Go.ChangeShapes Go.WideShapes Go.ChangeAt Go.RowKit
open Go.ChangeMaps (open_string shut_string)
namespace UTreeAlts
def laid : List (String × DataW Unit) := Rows.treeAltsUptoRow.laid
theorem own : ownKnob Tryd.prog.godebug = none := by kernel_rfl
theorem laidOut : laidOutB Tryd.prog = true := by kernel_rfl
def args0 : Array Value := #[.agg #[.int .i64 0, .string ByteArray.empty, .int .i64 0, .int .i64 0, .slice none 0 0], .int .i64 0, .int .i64 0]
noncomputable def w0 (os : Os) : World := World.laidAll Tryd.prog os laid
theorem reads (os : Os) {H : Type} (enc : TypeId × Value → H) : ∃ x, DataW.whole enc Tryd.prog ((w0 os).forCall (fun _ _ => 0) ⟨#[], args0, []⟩).memory Tryd.f7.params.toList Rows.treeAltsSpec.vars false args0.toList 8 = some x ∧ Rows.uptoSmall H (x.1 ++ x.2.1) = true ∧ x.2.1 = [] := ⟨([.agg [.lit (.int .i64 0), .lit (.string []), .lit (.int .i64 0), .lit (.int .i64 0), .nil], .lit (.int .i64 0), .lit (.int .i64 0)], [], []), by kernel_rfl, by kernel_rfl, rfl⟩
set_option maxRecDepth 100000 in
theorem witness (os : Os) {H : Type} (enc : TypeId × Value → H) : ∃ (w : World) (tape : Tape) (i : Input), w.os = os ∧ (w.forCall tape i).Shaped Tryd.checked.prog ∧ i.vars = [] ∧ Input.okWide Tryd.checked.prog (w.forCall tape i) .any w.heap.size 7 i ∧
    (Rows.OpenSpec.upto Rows.treeAltsSpec).preRow enc Tryd.checked.prog Tryd.f7 [] false laid (w.forCall tape i).memory i.args ∧ ({} : Assume).holds Tryd.checked.prog (lone (Frame.enter Tryd.checked.prog 7 i.args .normal) [] (w.forCall tape i)) := by
  obtain ⟨x, hx, hk, _⟩ := reads os enc
  have hok : Input.okWideB Tryd.checked.prog ((w0 os).forCall (fun _ _ => 0) ⟨#[], args0, []⟩) 7 ⟨#[], args0, []⟩ = true := by kernel_rfl
  refine ⟨w0 os, fun _ _ => 0, ⟨#[], args0, []⟩, World.laidAll_os _ _ _, World.shaped_of_ZipB (by kernel_rfl) (by kernel_rfl), (Input.okWide_of_okWideB (base := 0) hok).1, (Input.okWide_of_okWideB hok).2, ?_, ?_⟩
  · refine OpenSpec.preRow_of_cond 8 hx rfl (fun k h => by cases h; exact hk) (by kernel_rfl) ?_
    rw [MakeChecks.laidMetH_plain _ _ _ (by kernel_rfl)]; exact laidMet_laidAll _ (by kernel_rfl) (by kernel_rfl)
  · simp only [Assume.holds]
    exact ⟨by simp, by simp, fun _ => Modest.zero, by simp, by simp⟩
set_option maxRecDepth 100000 in
theorem lifted (os : Os) (started : os.Started) (H : Type) (enc : TypeId × Value → H) (F : Stop.Interp) :
    ReturnsInHanded {} Tryd.checked os 7 .any ((Rows.OpenSpec.upto Rows.treeAltsSpec).preRow enc Tryd.prog Tryd.f7 Rows.treeAltsUptoRow.domain false Rows.treeAltsUptoRow.laid) (((Rows.OpenSpec.upto Rows.treeAltsSpec).at F).post enc Tryd.prog Tryd.f7 false true false false) := by
  refine returnsInHanded_of_row (C := Tryd.checked) (s := Rows.OpenSpec.upto Rows.treeAltsSpec) own started (by kernel_rfl) Tryd.func7 (witness os enc) ?_
  intro W base args ds gs before hval0 hW _ hcond hsz0 hL _ _
  show Calls Tryd.prog 7 args W fun e W' => ∃ v, e = .returned v ∧ Rows.treeAltsSpec.post enc Tryd.prog Tryd.f7 false true false false W args v W'
  have hbulk0 : Rows.uptoSmall H (ds ++ gs) = true := hcond _ rfl
  have hval : ∀ (j : Nat) t v, Tryd.f7.params[j]? = some t → args[j]? = some v → Value.okWide Tryd.prog W .any base t v := hval0
  have hW' := hW
  have hlt := hW.lt
  obtain ⟨p, q, hA0, hV, rfl, hfz, hnd⟩ := hW
  have hA : DataW.TrodAll enc Tryd.prog W 0 (fun _ => true) true Tryd.f7.params.toList args.toList ds p := hA0
  rw [Tryd.params7] at hA hval
  obtain ⟨v0, vs0, d0, ds0, p0, q0, hargs, rfl, rfl, h0, r0⟩ := trodAll_cons hA
  obtain ⟨v1, vs1, d1, ds1, p1, q1, rfl, rfl, rfl, h1, r1⟩ := trodAll_cons r0
  obtain ⟨v2, vs2, d2, ds2, p2, q2, rfl, rfl, rfl, h2, r2⟩ := trodAll_cons r1
  obtain ⟨rfl, rfl, rfl⟩ := trodAll_nil r2
  obtain rfl : args = #[v0, v1, v2] := by cases args; simp_all
  obtain ⟨rfl, rfl⟩ := trodVars_none hV
  have hbulk : Rows.uptoBulkAll ([d0, d1, d2] ++ []) ≤ 1048576 := of_decide_eq_true hbulk0
  simp only [Rows.uptoBulkAll, List.append_nil] at hbulk
  have l0 : ∀ x ∈ p0, x.block < W.heap.size := fun x hx => hlt x (by simp [hx])
  have g0 := h0
  obtain ⟨x0, A0, c0, rfl, hC0, hl0, ok0, wt0⟩ := Pure.TreeRd.readTree (hval 0 24 v0 rfl rfl) h0
  have l1 : ∀ x ∈ p1, x.block < W.heap.size := fun x hx => hlt x (by simp [hx])
  have g1 := h1
  obtain ⟨a1, rfl, _, _, w1⟩ := open_int Tryd.underlying3 (hval 1 3 v1 rfl rfl) h1
  have l2 : ∀ x ∈ p2, x.block < W.heap.size := fun x hx => hlt x (by simp [hx])
  have g2 := h2
  obtain ⟨a2, rfl, _, _, w2⟩ := open_int Tryd.underlying3 (hval 2 3 v2 rfl rfl) h2
  clear hA0 hval0 hsz0
  refine (Pure.TreeAlts_walk (w := W) x0 A0 c0 hC0 hl0 ok0 (by omega) a1 w1 a2 w2 (Pure.TreeTab.tab_of hL)).mono fun e W' ⟨he, bel⟩ => ?_
  subst he
  exact ⟨_, rfl, _, _, _, [], _, [], hW', trodAll_mk1 (shut_bool Tryd.underlying4 _), (trodAll_cons_mk (Below.trod laidOut (by kernel_rfl) (of_decide_eq_true (by kernel_rfl)) g0 bel l0) (trodAll_cons_mk (Below.trod laidOut (by kernel_rfl) (of_decide_eq_true (by kernel_rfl)) g1 bel l1) (trodAll_cons_mk (Below.trod laidOut (by kernel_rfl) (of_decide_eq_true (by kernel_rfl)) g2 bel l2) trodAll_mk0))), rfl, bel.frame _, fun h => by cases h⟩
theorem holds : Rows.TreeAltsUptoSaid :=
  OpenClaim.holds_of_cond 7 Tryd.f7 rfl rfl rfl rfl rfl rfl rfl ⟨rfl, rfl, rfl, rfl, rfl⟩ rfl rfl rfl rfl rfl (by kernel_rfl) Tryd.func7 (by kernel_rfl)
    (of_decide_eq_true (by kernel_rfl)) (by unfold Func.isWrapper; first | (rw [if_pos (by decide +kernel)]; kernel_rfl) | (rw [if_neg (by decide +kernel)]; exact ⟨rfl, rfl⟩))
    (fun os started H enc _ F => by rw [OpenClaim.pre_eq_preRow]; exact lifted os started H enc F)
theorem card_holds : Rows.TreeAltsUptoCardSaid :=
  Claim7.holds_tied_plain_at .later [] [.data, .data, .data, .data, .sentinel, .sentinel, .listed, .data, .pinned] true (true, "c974f3124d63773a062a21b5cafc55cc2260c1f9bb83e7a9a27e018a3a09017d") true holds (fun _ h => by cases h) (by kernel_rfl) (fun _ h => by cases h) treeAltsUpto_row_tie rfl ⟨rfl, rfl⟩ (by kernel_rfl) rfl
    (fun f fn hf hfn => by
      obtain rfl : f = 7 := Option.some.inj ((show Tryd.prog.funcNamed "gossamer/gossamerlaw02.TreeAlts" = some 7 by kernel_rfl).symm.trans hf) |>.symm
      obtain rfl : fn = Tryd.f7 := (Option.some.inj (Tryd.func7.symm.trans hfn)).symm
      exact ⟨by kernel_rfl, fun j t ht => by
        rw [Tryd.params7] at ht
        have hm : t ∈ [24, 3, 3] := by simpa using Array.mem_of_getElem? ht
        have hall : ([24, 3, 3].all fun u => !Tryd.prog.wantsStandIn u) = true := by kernel_rfl
        exact (show Tryd.prog.wantsStandIn t = false by simpa using List.all_eq_true.1 hall t hm)⟩)
    (by kernel_rfl)
#print axioms card_holds
end UTreeAlts
theorem treeAltsUpto_card : Rows.TreeAltsUptoCardSaid := UTreeAlts.card_holds
end Go.Proofs.YthdkjfhpbigdpaaDoor
