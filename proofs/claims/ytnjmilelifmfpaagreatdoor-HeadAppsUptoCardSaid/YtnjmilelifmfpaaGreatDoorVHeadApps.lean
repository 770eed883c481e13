/- Proved: for every input whose reading is of bulk at most 1048576, HeadApps returns true, without a panic, and leaves its arguments as they were: the row and its tied card. Conditions: the bulk; the listed package variables read as the program's text sets them (the card ties them). -/
import Derived.Test.YtnjmilelifmfpaaGreatDoorTie
import Derived.Test.YtnjmilelifmfpaaGreatDoorCards
import Derived.Test.YtnjmilelifmfpaaGreatDoorKHeadAll6
import Derived.ProofKit
import Derived.OpenShut
import Derived.LaidMore
import Derived.Lay
import Derived.SevenTiedAt
import Derived.Stop.Joined
import Derived.Handed
import Derived.LaidLaws
import Derived.SizedLaws
import Derived.Carry
import Derived.Deep.DeepHandedRow
import Derived.Test.YtnjmilelifmfpaaGreatDoorKHeadAll7
namespace Go.Proofs.YtnjmilelifmfpaaGreatDoor
open Go Go.ChangeShapes Go.WideShapes Go.ChangeAt Go.RowKit
open Go.ChangeMaps (open_string shut_string)
namespace UHeadApps
def laid : List (String × DataW Unit) := Rows.headAppsUptoRow.laid
theorem own : ownKnob Tryz.prog.godebug = none := by kernel_rfl
theorem laidOut : laidOutB Tryz.prog = true := by kernel_rfl
def args0 : Array Value := #[.agg #[.int .i64 0, .int .i64 0, .string ByteArray.empty, .slice none 0 0], .agg #[.int .i64 0, .int .i64 0, .string ByteArray.empty, .slice none 0 0]]
noncomputable def w0 (os : Os) : World := World.laidAll Tryz.prog os laid
theorem reads (os : Os) {H : Type} (enc : TypeId × Value → H) : ∃ x, DataW.whole enc Tryz.prog ((w0 os).forCall (fun _ _ => 0) ⟨#[], args0, []⟩).memory Tryz.f7.params.toList Rows.headAppsSpec.vars false args0.toList 8 = some x ∧ Rows.uptoSmall H (x.1 ++ x.2.1) = true ∧ x.2.1 = [] := ⟨([.agg [.lit (.int .i64 0), .lit (.int .i64 0), .lit (.string []), .nil], .agg [.lit (.int .i64 0), .lit (.int .i64 0), .lit (.string []), .nil]], [], []), by kernel_rfl, by kernel_rfl, rfl⟩
set_option maxRecDepth 100000 in
theorem witness (os : Os) {H : Type} (enc : TypeId × Value → H) : ∃ (w : World) (tape : Tape) (i : Input), w.os = os ∧ (w.forCall tape i).Shaped Tryz.checked.prog ∧ i.vars = [] ∧ Input.okWide Tryz.checked.prog (w.forCall tape i) .any w.heap.size 7 i ∧
    (Rows.OpenSpec.upto Rows.headAppsSpec).preRow enc Tryz.checked.prog Tryz.f7 [] false laid (w.forCall tape i).memory i.args ∧ ({} : Assume).holds Tryz.checked.prog (lone (Frame.enter Tryz.checked.prog 7 i.args .normal) [] (w.forCall tape i)) := by
  obtain ⟨x, hx, hk, _⟩ := reads os enc
  have hok : Input.okWideB Tryz.checked.prog ((w0 os).forCall (fun _ _ => 0) ⟨#[], args0, []⟩) 7 ⟨#[], args0, []⟩ = true := by kernel_rfl
  refine ⟨w0 os, fun _ _ => 0, ⟨#[], args0, []⟩, World.laidAll_os _ _ _, World.shaped_of_ZipB (by kernel_rfl) (by kernel_rfl), (Input.okWide_of_okWideB (base := 0) hok).1, (Input.okWide_of_okWideB hok).2, ?_, ?_⟩
  · refine OpenSpec.preRow_of_cond 8 hx rfl (fun k h => by cases h; exact hk) (by kernel_rfl) ?_
    rw [MakeChecks.laidMetH_plain _ _ _ (by kernel_rfl)]; exact laidMet_laidAll _ (by kernel_rfl) (by kernel_rfl)
  · simp only [Assume.holds]
    exact ⟨by simp, by simp, fun _ => Modest.zero, by simp, by simp⟩
set_option maxRecDepth 100000 in
theorem lifted (os : Os) (started : os.Started) (H : Type) (enc : TypeId × Value → H) (F : Stop.Interp) :
    ReturnsInHanded {} Tryz.checked os 7 .any ((Rows.OpenSpec.upto Rows.headAppsSpec).preRow enc Tryz.prog Tryz.f7 Rows.headAppsUptoRow.domain false Rows.headAppsUptoRow.laid) (((Rows.OpenSpec.upto Rows.headAppsSpec).at F).post enc Tryz.prog Tryz.f7 false true false false) := by
  refine returnsInHanded_of_row (C := Tryz.checked) (s := Rows.OpenSpec.upto Rows.headAppsSpec) own started (by kernel_rfl) Tryz.func7 (witness os enc) ?_
  intro W base args ds gs before hval0 hW _ hcond hsz0 hL _ _
  show Calls Tryz.prog 7 args W fun e W' => ∃ v, e = .returned v ∧ Rows.headAppsSpec.post enc Tryz.prog Tryz.f7 false true false false W args v W'
  have hbulk0 : Rows.uptoSmall H (ds ++ gs) = true := hcond _ rfl
  have hval : ∀ (j : Nat) t v, Tryz.f7.params[j]? = some t → args[j]? = some v → Value.okWide Tryz.prog W .any base t v := hval0
  have hW' := hW
  have hlt := hW.lt
  obtain ⟨p, q, hA0, hV, rfl, hfz, hnd⟩ := hW
  have hA : DataW.TrodAll enc Tryz.prog W 0 (fun _ => true) true Tryz.f7.params.toList args.toList ds p := hA0
  rw [Tryz.params7] at hA hval
  obtain ⟨v0, vs0, d0, ds0, p0, q0, hargs, rfl, rfl, h0, r0⟩ := trodAll_cons hA
  obtain ⟨v1, vs1, d1, ds1, p1, q1, rfl, rfl, rfl, h1, r1⟩ := trodAll_cons r0
  obtain ⟨rfl, rfl, rfl⟩ := trodAll_nil r1
  obtain rfl : args = #[v0, v1] := by cases args; simp_all
  obtain ⟨rfl, rfl⟩ := trodVars_none hV
  have hbulk : Rows.uptoBulkAll ([d0, d1] ++ []) ≤ 1048576 := of_decide_eq_true hbulk0
  simp only [Rows.uptoBulkAll, List.append_nil] at hbulk
  have l0 : ∀ x ∈ p0, x.block < W.heap.size := fun x hx => hlt x (by simp [hx])
  have g0 := h0
  obtain ⟨x0, A0, c0, rfl, hC0, hl0, ok0, wt0⟩ := Pure.CoreRd.readTerm (hval 0 24 v0 rfl rfl) h0
  have l1 : ∀ x ∈ p1, x.block < W.heap.size := fun x hx => hlt x (by simp [hx])
  have g1 := h1
  obtain ⟨x1, A1, c1, rfl, hC1, hl1, ok1, wt1⟩ := Pure.CoreRd.readTerm (hval 1 24 v1 rfl rfl) h1
  clear hA0 hval0 hsz0
  refine (Pure.HeadApps_walk (w := W) x0 A0 c0 hC0 hl0 ok0 (by omega) x1 A1 c1 hC1 hl1 ok1 (by omega)).mono fun e W' ⟨he, bel⟩ => ?_
  subst he
  exact ⟨_, rfl, _, _, _, [], _, [], hW', trodAll_mk1 (shut_bool Tryz.underlying4 _), (trodAll_cons_mk (Below.trod laidOut (by kernel_rfl) (of_decide_eq_true (by kernel_rfl)) g0 bel l0) (trodAll_cons_mk (Below.trod laidOut (by kernel_rfl) (of_decide_eq_true (by kernel_rfl)) g1 bel l1) trodAll_mk0)), rfl, bel.frame _, fun h => by cases h⟩
theorem holds : Rows.HeadAppsUptoSaid :=
  OpenClaim.holds_of_cond 7 Tryz.f7 rfl rfl rfl rfl rfl rfl rfl ⟨rfl, rfl, rfl, rfl, rfl⟩ rfl rfl rfl rfl rfl (by kernel_rfl) Tryz.func7 (by kernel_rfl)
    (of_decide_eq_true (by kernel_rfl)) (by unfold Func.isWrapper; first | (rw [if_pos (by decide +kernel)]; kernel_rfl) | (rw [if_neg (by decide +kernel)]; exact ⟨rfl, rfl⟩))
    (fun os started H enc _ F => by rw [OpenClaim.pre_eq_preRow]; exact lifted os started H enc F)
theorem card_holds : Rows.HeadAppsUptoCardSaid :=
  Claim7.holds_tied_plain_at .later [] [.data, .data, .data, .data, .sentinel, .sentinel, .pinned] true (true, "305529867e0743b86d3b4c1e2e4aa7e0a9417f172dec5a6de93f264f7e7a44a6") true holds (fun _ h => by cases h) (by kernel_rfl) (fun _ h => by cases h) headAppsUpto_row_tie rfl ⟨rfl, rfl⟩ (by kernel_rfl) rfl
    (fun f fn hf hfn => by
      obtain rfl : f = 7 := Option.some.inj ((show Tryz.prog.funcNamed "gossamer/gossamerlaw09.HeadApps" = some 7 by kernel_rfl).symm.trans hf) |>.symm
      obtain rfl : fn = Tryz.f7 := (Option.some.inj (Tryz.func7.symm.trans hfn)).symm
      exact ⟨by kernel_rfl, fun j t ht => by
        rw [Tryz.params7] at ht
        have hm : t ∈ [24, 24] := by simpa using Array.mem_of_getElem? ht
        have hall : ([24, 24].all fun u => !Tryz.prog.wantsStandIn u) = true := by kernel_rfl
        exact (show Tryz.prog.wantsStandIn t = false by simpa using List.all_eq_true.1 hall t hm)⟩)
    (by kernel_rfl)
#print axioms card_holds
end UHeadApps
theorem headAppsUpto_card : Rows.HeadAppsUptoCardSaid := UHeadApps.card_holds
end Go.Proofs.YtnjmilelifmfpaaGreatDoor
