-- Written for this claim: several texts in one.
import Derived.Test.YtnjmilelifmfpaaGreatDoorKHeadW0
import Derived.KernelRfl
import Derived.Test.YtnjmilelifmfpaaGreatDoorProg
import Derived.Below
import Derived.Deep.Draws
import Derived.Deep.AppendLies
import Derived.Maps.AppendAt
import Derived.OwnWalk
import Derived.Laws.BytesArg
import Derived.Laws.MakeOwn
import Derived.Laws.OwnMore
import Derived.Deep.OwnRows
import Derived.Tactics
import Derived.Lib.ConvBytes
import Derived.Laws.Slices
import Derived.WalkKit
import Derived.RowKit3
import Derived.Deep.LoopGhost
import Derived.Deep.QuietTactic
import Derived.BigQuiet
import Derived.WideLaws
import Derived.Deep.DeepCutAuto
import Derived.Deep.CutBlock
import Derived.Deep.RegionHeld3
import Derived.Laws.Rows
import Derived.Lib.AppendStr
import Derived.ArgAppend
import Derived.Laws.IdiomCopy
import Derived.OrdersHeld
import Derived.Laws.BitsLemmas
import Derived.RowKit
import Derived.Test.YtnjmilelifmfpaaGreatDoorYHeadWWords
import Derived.Test.YtnjmilelifmfpaaGreatDoorYHeadWLast
import Derived.Test.YtnjmilelifmfpaaGreatDoorYHeadWTab
import Derived.Test.YtnjmilelifmfpaaGreatDoorYHeadWQPut
import Derived.Test.YtnjmilelifmfpaaGreatDoorYHeadWApart
import Derived.Test.YtnjmilelifmfpaaGreatDoorYHeadWArr
import Derived.Test.YtnjmilelifmfpaaGreatDoorYHeadWZeros
import Derived.Test.YtnjmilelifmfpaaGreatDoorYHeadWFoot
import Derived.Test.YtnjmilelifmfpaaGreatDoorYHeadWKept
import Derived.Test.YtnjmilelifmfpaaGreatDoorYHeadWShare
import Derived.Test.YtnjmilelifmfpaaGreatDoorYHeadWN
import Derived.Test.YtnjmilelifmfpaaGreatDoorYHeadWRepsOne
import Derived.Test.YtnjmilelifmfpaaGreatDoorYHeadWInv
import Derived.Test.YtnjmilelifmfpaaGreatDoorYHeadWNEv
import Derived.Test.YtnjmilelifmfpaaGreatDoorYHeadWMore
set_option linter.unusedSimpArgs false
set_option linter.unusedVariables false
namespace Go.Proofs.YtnjmilelifmfpaaGreatDoor.Ev
open Go Go.RowKit
set_option linter.unusedSimpArgs false
set_option linter.unusedVariables false
section
variable {P : Program} {c : Cx} {fr : Nat → Prop} {g : Gh} {st : AS} {a : Act} {w : World} {id : Nat} {K : AS → Prop} {Q : Exit → Act → World → Prop} {X : AV → Prop} {J : JW} {E : Env}
theorem stp_q {o : AOp} {d : Option Nat} (h : stp P E id st d K X o) (hq : o.quiet = true) : ∃ v, pv P st.ev st.bx st.gr o = some v ∧ K (st.put d v) := by rw [stp_quiet hq] at h; exact h
theorem op_sound (hE : Ok P J E) (hhn : E.hn = c.gs.length ∧ J.lo ≤ c.w0.heap.size ∧ ∀ h ∈ c.gs, J.lo ≤ h) (R : Rel c fr g st a w) (hJ : J w) (hf : fr id) {o : Oper} (hd : ∀ i, o.dst = some i → i < c.n) {ao : AOp} (hc : cop P o = some ao) (h : stp P E id st o.dst K X ao)
  (hX : ∀ x p a w, X p → PanR c p x w → a.defers = [] → Keep c.w0.heap.size c.gs c.w0 w → Q (.panic [{ v := x, recovered := false }]) a w) : o.wp P a w (Goes c fr id K) Q := by
 obtain ⟨dst, op, type, pos, after, guard⟩ := o
 cases op <;> simp only [cop] at hc <;> dsimp only at h hd
 case move x =>
  split at hc <;> cases hc
  rename_i ho
  obtain ⟨v, hv, k⟩ := stp_q h rfl
  exact op_quiet R hd (pv_mv R ho hv).1 k
 case assign x =>
  split at hc <;> cases hc
  rename_i ho
  obtain ⟨v, hv, k⟩ := stp_q h rfl
  exact op_quiet R hd (pv_mv R ho hv).2 k
 case pick x y z =>
  split at hc <;> cases hc
  rename_i ho
  obtain ⟨v, hv, k⟩ := stp_q h rfl
  exact op_quiet R hd (pv_pick R ho hv) k
 case alloc t =>
  simp only [Option.map_eq_some_iff] at hc
  obtain ⟨z, hz, rfl⟩ := hc
  exact op_alloc R hf hd hz h
 case box t x =>
  split at hc <;> cases hc
  rename_i ho
  obtain ⟨cs, hcs, k⟩ := h
  exact op_box R hf hd ho hcs k
 case build t ps =>
  split at hc
  ·rename_i z l hz hl
   split at hc <;> cases hc
   rename_i ho
   simp only [Bool.and_eq_true] at ho
   obtain ⟨v, hv, k⟩ := stp_q h rfl
   exact op_quiet R hd (pv_bld R hz hl ho.1 ho.2 hv) k
  ·cases hc
 case buildSlice t n ps =>
  split at hc
  ·rename_i e he
   split at hc
   ·rename_i sz l z hs hl hz
    split at hc <;> cases hc
    rename_i ho
    simp only [Bool.and_eq_true, beq_iff_eq, decide_eq_true_eq] at ho
    obtain ⟨⟨⟨⟨ho, hn⟩, hzl⟩, hpos⟩, hsm⟩ := ho
    obtain ⟨xs, hx, _, k⟩ := h
    exact op_bs R hf hd he hs hz hl ho hn hzl hpos hsm hx k
   ·cases hc
  ·cases hc
 case load t x =>
  split at hc
  ·rename_i ag n ha hs
   split at hc <;> cases hc
   rename_i ho
   obtain ⟨v, hv, k⟩ := stp_q h rfl
   exact op_quiet R hd (pv_ld R ha hs ho hv) k
  ·cases hc
 case store t p x =>
  split at hc
  ·rename_i n hs
   split at hc <;> cases hc
   rename_i ho
   simp only [stp] at h
   split at h
   ·rename_i b o h1
    obtain ⟨cs, new, h2, h3, h4, h5, k⟩ := h
    exact op_st R hd hs ho h1 h2 h3 h4 h5 k
   ·rename_i kk sz i o h1
    obtain ⟨r, cs, new, h2, h3, h4, h5, h6, h7, h8, h9, k⟩ := h
    exact op_stR R hd hs ho h1 h2 h3 h4 h5 h6 h7 h8 h9 k
   ·exact h.elim
  ·cases hc
 case binOp op t x y u =>
  split at hc <;> cases hc
  rename_i ho
  obtain ⟨v, hv, k⟩ := stp_q h rfl
  exact op_quiet R hd (pv_sc R ho hv (by simp [execOp, Sc.sem])) k
 case unOp op t x =>
  split at hc <;> cases hc
  rename_i ho
  obtain ⟨v, hv, k⟩ := stp_q h rfl
  exact op_quiet R hd (pv_sc R (by simpa [oAll] using ho) hv (by simp [execOp, Sc.sem])) k
 case convert s d x =>
  split at hc
  ·rename_i ho
   split at hc <;> cases hc
   ·rename_i hb
    simp only [Bool.and_eq_true] at hb
    obtain ⟨v, hv, k⟩ := stp_q h rfl
    exact op_quiet R hd (pv_bts R hb.1 hb.2 ho hv) k
   ·obtain ⟨v, hv, k⟩ := stp_q h rfl
    exact op_quiet R hd (pv_sc R (by simpa [oAll] using ho) hv (by simp [execOp, Sc.sem])) k
  ·cases hc
 case makeInterface t x =>
  split at hc <;> cases hc
  rename_i ho
  obtain ⟨v, hv, k⟩ := stp_q h rfl
  exact op_quiet R hd (pv_sc R (by simpa [oAll] using ho) hv (by simp [execOp, Sc.sem])) k
 case slice t x lo hi mx =>
  cases mx with
  | some m => cases hc
  | none =>
   simp only at hc
   split at hc
   ·rename_i ho
    split at hc
    ·cases hc
     obtain ⟨v, hv, k⟩ := stp_q h rfl
     refine op_quiet R hd (pv_sc R ho hv ?_) k
     cases lo <;> cases hi <;> simp [execOp, Sc.sem]
    ·split at hc
     ·rename_i e he
      simp only [Option.map_eq_some_iff] at hc
      obtain ⟨sz, hs, rfl⟩ := hc
      obtain ⟨v, hv, k⟩ := stp_q h rfl
      exact op_quiet R hd (pv_rs R he hs ho hv) k
     ·cases hc
   ·cases hc
 case nilCheck x =>
  split at hc <;> cases hc
  rename_i ho
  obtain ⟨v, hv, k⟩ := stp_q h rfl
  exact op_quiet R hd (pv_nc R ho hv) k
 case fieldAddr t x f =>
  split at hc
  ·rename_i ag off n hf'
   split at hc <;> cases hc
   rename_i ho
   simp only [Bool.and_eq_true, bne_iff_ne, ne_eq] at ho
   obtain ⟨v, hv, k⟩ := stp_q h rfl
   exact op_quiet R hd (pv_fa R hf' ho.1 ho.2 hv) k
  ·cases hc
 case field t x f =>
  split at hc
  ·rename_i ag off n hf'
   split at hc <;> cases hc
   rename_i ho
   obtain ⟨v, hv, k⟩ := stp_q h rfl
   exact op_quiet R hd (pv_fd R hf' ho hv) k
  ·cases hc
 case indexAddr t x i =>
  split at hc
  ·rename_i e he
   split at hc
   ·rename_i sz hs
    split at hc <;> cases hc
    rename_i ho
    obtain ⟨v, hv, k⟩ := stp_q h rfl
    exact op_quiet R hd (pv_ia R he hs ho hv) k
   ·cases hc
  ·cases hc
 case index t x i =>
  split at hc <;> cases hc
  rename_i ho
  simp only [Bool.and_eq_true] at ho
  obtain ⟨v, hv, k⟩ := stp_q h rfl
  exact op_quiet R hd (pv_sc R ho.1 hv (by simp [execOp, Sc.sem])) k
 case extract x i =>
  split at hc <;> cases hc
  rename_i ho
  obtain ⟨v, hv, k⟩ := stp_q h rfl
  exact op_quiet R hd (pv_ex R ho hv) k
 case call cl =>
  obtain ⟨callee, args, ts⟩ := cl
  cases callee with
  | builtin b =>
   cases b <;> simp only at hc
   case append =>
    split at hc
    ·rename_i x y t u ha ht
     split at hc
     ·rename_i e he
      split at hc
      ·rename_i i z hi hz
       split at hc <;> cases hc
       rename_i ho
       simp only [Bool.and_eq_true, beq_iff_eq, decide_eq_true_eq] at ho
       obtain ⟨⟨⟨rfl, ho⟩, hzl⟩, hpos⟩ := ho
       obtain ⟨k, xs, ys, h1, h2, h3, h4, h5⟩ := h
       rw [args2 ha, ts2 ht]
       exact op_ap R hf hd he hi hz ho hzl hpos h1 h2 h3 h4 h5
      ·cases hc
     ·cases hc
    ·cases hc
   case len =>
    split at hc
    ·rename_i x t ha ht
     split at hc
     ·rename_i ho
      rw [args1 ha, ts1 ht]
      split at hc <;> cases hc
      ·rename_i hs
       obtain ⟨e, he⟩ := Option.isSome_iff_exists.1 hs
       obtain ⟨v, hv, k⟩ := stp_q h rfl
       exact op_quiet R hd (pv_ln (cl := .builtin .len) R he ho hv) k
      ·obtain ⟨v, hv, k⟩ := stp_q h rfl
       exact op_quiet R hd (pv_sc R (by simpa [oAll] using ho) hv (by simp [execOp, resolve, invoke, builtin, Sc.sem])) k
     ·cases hc
    ·cases hc
   case min =>
    split at hc <;> cases hc
    rename_i ho
    obtain ⟨v, hv, k⟩ := stp_q h rfl
    refine op_quiet R hd (pv_sc R ho hv ?_) k
    have harr : (args.toList.map a.eval).toArray = args.map a.eval := by rw [← Array.toList_map]
    simp only [execOp, resolve, invoke, builtin, Sc.sem, harr, Array.toArray_toList]
    rfl
   case max =>
    split at hc <;> cases hc
    rename_i ho
    obtain ⟨v, hv, k⟩ := stp_q h rfl
    refine op_quiet R hd (pv_sc R ho hv ?_) k
    have harr : (args.toList.map a.eval).toArray = args.map a.eval := by rw [← Array.toList_map]
    simp only [execOp, resolve, invoke, builtin, Sc.sem, harr, Array.toArray_toList]
    rfl
   all_goals cases hc
  | invoke r m => cases hc
  | value f =>
   cases f with
   | func f =>
    simp only at hc
    split at hc
    ·rename_i ho
     simp only [Bool.and_eq_true] at ho
     split at hc <;> cases hc
     ·obtain ⟨kk, out, he, _, k⟩ := h
      exact op_call hE hhn R hJ hd ho.1 ho.2 he k hX
     ·obtain ⟨f', ys, zs, css, out, h1, h2, h3, _, k⟩ := stp_callh.1 h
      exact op_callh hE hhn R hJ hd (x := .func f) rfl ho.1 h1 h2 h3 k hX
    ·cases hc
   | tmp t =>
    simp only at hc
    split at hc <;> cases hc
    rename_i ho
    obtain ⟨f', ys, zs, css, out, h1, h2, h3, _, k⟩ := stp_callh.1 h
    exact op_callh hE hhn R hJ hd (x := .tmp t) rfl ho h1 h2 h3 k hX
   | _ => cases hc
 case makeFunc fn xs ys =>
  cases fn <;> simp only at hc
  case func f =>
   split at hc <;> cases hc
   rename_i ho
   simp only [Bool.and_eq_true] at ho
   obtain ⟨v, hv, k⟩ := stp_q h rfl
   exact op_quiet R hd (pv_clo R ho.1 ho.2 hv) k
  all_goals cases hc
 case makeSlice t l c' =>
  split at hc
  ·rename_i e he
   split at hc
   ·rename_i i z hi hz
    split at hc <;> cases hc
    rename_i ho
    simp only [Bool.and_eq_true, beq_iff_eq, decide_eq_true_eq] at ho
    obtain ⟨⟨⟨ho, hs⟩, hzl⟩, hpos⟩ := ho
    obtain ⟨n, h1, h2, k⟩ := h
    exact op_mks R hf hd he hi hz ho hs hzl hpos h1 h2 k
   ·cases hc
  ·cases hc
 case panic x =>
  split at hc <;> cases hc
  rename_i ho
  obtain ⟨t, v, p, hx, hp, k⟩ := h
  exact op_pan R ho hx hhn.1 hp k hX
 all_goals cases hc
end
end Go.Proofs.YtnjmilelifmfpaaGreatDoor.Ev

namespace Go.Proofs.YtnjmilelifmfpaaGreatDoor.Ev
open Go Go.RowKit
set_option linter.unusedSimpArgs false
set_option linter.unusedVariables false

def AOp.opds : AOp → List Operand
 | .mv x | .nc x | .fa _ x | .fd _ _ _ x | .ex x _ | .ln x | .bts x | .ld _ _ x | .box x | .pan x | .mks _ _ _ _ x => [x]
 | .clo _ xs ys => xs ++ ys
 | .callh x xs => x :: xs
 | .pick a b c => [a, b, c]
 | .sc _ xs | .bs _ _ xs | .call _ xs => xs
 | .bld _ ps => ps.map (·.2.2)
 | .ia _ x i => [x, i]
 | .rs _ x lo hi => [x] ++ lo.toList ++ hi.toList
 | .alloc _ => []
 | .st _ p x => [p, x]
 | .ap _ _ _ x y => [x, y]
def tmpsOf (l : List Operand) : List Tmp := l.filterMap fun | .tmp t => some t | _ => none
def AOper.reads (o : AOper) : List Tmp := (match o.g with | some (t, _) => [t] | none => []) ++ tmpsOf o.op.opds
def AOp.cls : AOp → Nat
 | .ld .. | .ia .. | .ln _ | .bts _ => 1
 | .box _ | .alloc _ | .mks .. => 2
 | .bs .. => 3
 | .ap .. => 6
 | .call .. | .pan _ => 5
 | .st .. | .callh .. => 4
 | _ => 0
def clsOk (a b : Nat) : Bool := if a = 0 ∨ b = 0 then true else (a != 4 && b != 4 && !(a == 6 && (b == 1 || b == 5 || b == 6)))
def apart (x y : AOper) : Bool :=
 (match x.d with | some d => !y.reads.contains d && y.d != some d | none => true) && (match y.d with | some d => !x.reads.contains d | none => true) && clsOk x.op.cls y.op.cls

theorem pv_congr {P : Program} {ev ev' : Operand → AV} {bx : Nat → Option (List AV)} {gr : Gr} {o : AOp} (h : ∀ x ∈ o.opds, ev x = ev' x) : pv P ev bx gr o = pv P ev' bx gr o := by
 cases o
 case pick a b c => simp only [pv, h a (by simp [AOp.opds]), h b (by simp [AOp.opds]), h c (by simp [AOp.opds])]
 case sc k xs => simp only [pv]; rw [show xs.map ev = xs.map ev' from List.map_congr_left h]
 case bld z ps => simp only [pv]; rw [List.map_congr_left (g := fun p => (p.1, p.2.1, ev' p.2.2)) fun p hp => by rw [h p.2.2 (List.mem_map_of_mem (f := fun x => x.2.2) hp)]]
 case ia sz x i => simp only [pv, h x (by simp [AOp.opds]), h i (by simp [AOp.opds])]
 case rs sz x lo hi =>
  simp only [pv, h x (by simp [AOp.opds])]
  cases lo <;> cases hi
  ·rfl
  ·rename_i a; simp only [h a (by simp [AOp.opds])]
  ·rename_i a; simp only [h a (by simp [AOp.opds])]
  ·rename_i a b; simp only [h a (by simp [AOp.opds]), h b (by simp [AOp.opds])]
 case mv x => simp only [pv, h x (by simp [AOp.opds])]
 case nc x => simp only [pv, h x (by simp [AOp.opds])]
 case fa off x => simp only [pv, h x (by simp [AOp.opds])]
 case fd ag off n x => simp only [pv, h x (by simp [AOp.opds])]
 case ex x i => simp only [pv, h x (by simp [AOp.opds])]
 case ln x => simp only [pv, h x (by simp [AOp.opds])]
 case bts x => simp only [pv, h x (by simp [AOp.opds])]
 case ld ag n x => simp only [pv, h x (by simp [AOp.opds])]
 case clo f xs ys => simp only [pv]; rw [show xs.map ev = xs.map ev' from List.map_congr_left fun x hx => h x (List.mem_append_left _ hx), show ys.map ev = ys.map ev' from List.map_congr_left fun x hx => h x (List.mem_append_right _ hx)]
 all_goals rfl
theorem pv_bx {P : Program} {ev : Operand → AV} {bx bx' : Nat → Option (List AV)} {gr gr' : Gr} {o : AOp} (h : o.cls ≠ 1) : pv P ev bx gr o = pv P ev bx' gr' o := by
 cases o <;> first|rfl|(simp [AOp.cls] at h)

structure Res where
 v : AV
 bx : Nat → Option (List AV)
 gr : Gr
def Act1 (P : Program) (E : Env) (id : Nat) (ev : Operand → AV) (bx : Nat → Option (List AV)) (gr : Gr) (r : Res) : AOp → Prop
 | .box x => ∃ cs, cellsA (ev x) = some cs ∧ r = ⟨.ptr id 0, upd bx id (some cs), gr⟩
 | .alloc z => r = ⟨.ptr id 0, upd bx id (some (z.map .s)), gr⟩
 | .st n p x => match ev p with
  | .ptr b o => ∃ cs new, bx b = some cs ∧ cellsA (ev x) = some new ∧ new.length = n ∧ o + n ≤ cs.length ∧ r = ⟨.tup [], upd bx b (some (put1 cs o new)), gr⟩
  | .rptr k sz i o => ∃ y cs new, gr k = some y ∧ y.live = true ∧ y.sz = sz ∧ y.xs[i]? = some cs ∧ cellsA (strip gr (ev x)) = some new ∧ refs (ev x) = [] ∧ new.length = n ∧ o + n ≤ cs.length ∧
    r = ⟨.tup [], bx, upd gr k (some { y with xs := y.xs.set i (put1 cs o new) })⟩
  | _ => False
 | .bs e sz ps => ∃ xs, elemsOf gr sz (ps.map ev) = some xs ∧ here gr ((ps.map ev).flatMap refs) = true ∧ r = ⟨.ref id, bx, upd (shut gr ((ps.map ev).flatMap refs)) id (some ⟨e, sz, xs, true⟩)⟩
 | .ap e sz bytes x y => ∃ k xs ys, growOf e sz gr (ev x) = some (k, xs) ∧ rowOf gr (ev y) = some ys ∧ (ys.all fun c => c.length == sz) = true ∧ Room (xs.length + ys.length) bytes ∧
   r = ⟨.ref id, bx, upd (killT gr k) id (some ⟨e, sz, xs ++ ys, true⟩)⟩
 | .call f xs => ∃ k v, E f (xs.map fun x => stripB k gr (ev x)) (.ret v) ∧ here gr ((xs.map ev).flatMap refs) = true ∧ r = ⟨v, bx, shut gr (lent v ((xs.map ev).flatMap refs))⟩
 | .pan _ => False
 | .mks e sz bytes z x => ∃ n, idxOf (ev x) = some n ∧ Room n bytes ∧ r = ⟨.ref id, bx, upd gr id (some ⟨e, sz, List.replicate n (z.map .s), true⟩)⟩
 | .callh x xs => ∃ f ys zs css out, tgt (ev x) = some (f, ys, zs) ∧
   conts bx (nub ((ys ++ xs.map ev ++ zs).flatMap boxesOf)) = some css ∧
   E f (argsH gr (nub ((ys ++ xs.map ev ++ zs).flatMap boxesOf)) css (ys ++ xs.map ev ++ zs)) out ∧
   here gr ((ys ++ xs.map ev ++ zs).flatMap refs ++ css.flatten.flatMap refC) = true ∧
   out.onH (nub ((ys ++ xs.map ev ++ zs).flatMap boxesOf))
    (fun v css' => r = ⟨v, setBx bx (nub ((ys ++ xs.map ev ++ zs).flatMap boxesOf)) css', shut gr ((ys ++ xs.map ev ++ zs).flatMap refs ++ css.flatten.flatMap refC)⟩) (fun _ _ => False)
 | o => ∃ v, pv P ev bx gr o = some v ∧ r = ⟨v, bx, gr⟩
def AS.aft (st : AS) (d : Option Nat) (r : Res) : AS := { st with bx := r.bx, gr := r.gr }.put d r.v
def Pan1 (E : Env) (ev : Operand → AV) (bx : Nat → Option (List AV)) (gr : Gr) (p : AV) : AOp → Prop
 | .call f xs => ∃ k v, E f (xs.map fun x => stripB k gr (ev x)) (.pan v) ∧ here gr ((xs.map ev).flatMap refs) = true ∧ panV E.hn bx v = some p
 | .pan x => ∃ t u, ev x = .s (.iface t u) ∧ panV E.hn bx (.s (.iface t u)) = some p
 | .callh x xs => ∃ f ys zs css out, tgt (ev x) = some (f, ys, zs) ∧
   conts bx (nub ((ys ++ xs.map ev ++ zs).flatMap boxesOf)) = some css ∧
   E f (argsH gr (nub ((ys ++ xs.map ev ++ zs).flatMap boxesOf)) css (ys ++ xs.map ev ++ zs)) out ∧
   here gr ((ys ++ xs.map ev ++ zs).flatMap refs ++ css.flatten.flatMap refC) = true ∧
   out.onH (nub ((ys ++ xs.map ev ++ zs).flatMap boxesOf)) (fun _ _ => False) (fun v css' => panV E.hn (setBx bx (nub ((ys ++ xs.map ev ++ zs).flatMap boxesOf)) css') v = some p)
 | _ => False
theorem stp_iff {P : Program} {E : Env} {id : Nat} {st : AS} {d : Option Nat} {K : AS → Prop} {X : AV → Prop} {o : AOp} :
  stp P E id st d K X o ↔ (∃ r, Act1 P E id st.ev st.bx st.gr r o ∧ K (st.aft d r)) ∨ ∃ v, Pan1 E st.ev st.bx st.gr v o ∧ X v := by
 have q : ∀ o : AOp, o.quiet = true → (stp P E id st d K X o ↔ (∃ r, (∃ v, pv P st.ev st.bx st.gr o = some v ∧ r = (⟨v, st.bx, st.gr⟩ : Res)) ∧ K (st.aft d r)) ∨ ∃ v, False ∧ X v) := fun o h => by
  rw [stp_quiet h]
  constructor
  ·rintro ⟨v, h1, h2⟩; exact .inl ⟨_, ⟨v, h1, rfl⟩, h2⟩
  ·rintro (⟨_, ⟨v, h1, rfl⟩, h2⟩ | ⟨_, h, _⟩)
   ·exact ⟨v, h1, h2⟩
   ·exact h.elim
 have r : ∀ {o : AOp} {A : Res → Prop} {B : AV → Prop}, (∀ r, Act1 P E id st.ev st.bx st.gr r o ↔ A r) → (∀ v, Pan1 E st.ev st.bx st.gr v o ↔ B v) → (stp P E id st d K X o ↔ (∃ r, A r ∧ K (st.aft d r)) ∨ ∃ v, B v ∧ X v) →
   (stp P E id st d K X o ↔ (∃ r, Act1 P E id st.ev st.bx st.gr r o ∧ K (st.aft d r)) ∨ ∃ v, Pan1 E st.ev st.bx st.gr v o ∧ X v) := fun h1 h2 h3 => by simp only [h1, h2]; exact h3
 cases o
 case box x =>
  constructor
  ·rintro ⟨cs, h1, h2⟩; exact .inl ⟨_, ⟨cs, h1, rfl⟩, h2⟩
  ·rintro (⟨_, ⟨cs, h1, rfl⟩, h2⟩ | ⟨_, h, _⟩)
   ·exact ⟨cs, h1, h2⟩
   ·exact h.elim
 case alloc z =>
  constructor
  ·intro h; exact .inl ⟨_, rfl, h⟩
  ·rintro (⟨_, rfl, h2⟩ | ⟨_, h, _⟩)
   ·exact h2
   ·exact h.elim
 case st n p x =>
  simp only [stp, Act1, Pan1]
  generalize st.ev p = q
  cases q with
  | ptr b o =>
   constructor
   ·rintro ⟨cs, new, h2, h3, h4, h5, h6⟩; exact .inl ⟨_, ⟨cs, new, h2, h3, h4, h5, rfl⟩, h6⟩
   ·rintro (⟨_, ⟨cs, new, h2, h3, h4, h5, rfl⟩, h6⟩ | ⟨_, h, _⟩)
    ·exact ⟨cs, new, h2, h3, h4, h5, h6⟩
    ·exact h.elim
  | rptr k sz i o =>
   constructor
   ·rintro ⟨r, cs, new, h1, h2, h3, h4, h5, h6, h7, h8, h9⟩; exact .inl ⟨_, ⟨r, cs, new, h1, h2, h3, h4, h5, h6, h7, h8, rfl⟩, h9⟩
   ·rintro (⟨_, ⟨r, cs, new, h1, h2, h3, h4, h5, h6, h7, h8, rfl⟩, h9⟩ | ⟨_, h, _⟩)
    ·exact ⟨r, cs, new, h1, h2, h3, h4, h5, h6, h7, h8, h9⟩
    ·exact h.elim
  | _ =>
   constructor
   ·exact fun h => h.elim
   ·rintro (⟨_, h, _⟩ | ⟨_, h, _⟩) <;> exact h.elim
 case bs e sz ps =>
  constructor
  ·rintro ⟨cs, h1, h0, h2⟩; exact .inl ⟨_, ⟨cs, h1, h0, rfl⟩, h2⟩
  ·rintro (⟨_, ⟨cs, h1, h0, rfl⟩, h2⟩ | ⟨_, h, _⟩)
   ·exact ⟨cs, h1, h0, h2⟩
   ·exact h.elim
 case ap e sz bytes x y =>
  constructor
  ·rintro ⟨k, xs, ys, h1, h2, h3, h4, h5⟩; exact .inl ⟨_, ⟨k, xs, ys, h1, h2, h3, h4, rfl⟩, h5⟩
  ·rintro (⟨_, ⟨k, xs, ys, h1, h2, h3, h4, rfl⟩, h5⟩ | ⟨_, h, _⟩)
   ·exact ⟨k, xs, ys, h1, h2, h3, h4, h5⟩
   ·exact h.elim
 case call f xs =>
  constructor
  ·rintro ⟨k, out, h1, h0, h2⟩
   cases out with
   | ret v => exact .inl ⟨_, ⟨k, v, h1, h0, rfl⟩, h2⟩
   | pan v =>
    obtain ⟨p, hp, h2⟩ := h2
    exact .inr ⟨p, ⟨k, v, h1, h0, hp⟩, h2⟩
  ·rintro (⟨_, ⟨k, v, h1, h0, rfl⟩, h2⟩ | ⟨p, ⟨k, v, h1, h0, hp⟩, h2⟩)
   ·exact ⟨k, .ret v, h1, h0, h2⟩
   ·exact ⟨k, .pan v, h1, h0, p, hp, h2⟩
 case mks e sz bytes z x =>
  constructor
  ·rintro ⟨n, h1, h0, h2⟩; exact .inl ⟨_, ⟨n, h1, h0, rfl⟩, h2⟩
  ·rintro (⟨_, ⟨n, h1, h0, rfl⟩, h2⟩ | ⟨_, h, _⟩)
   ·exact ⟨n, h1, h0, h2⟩
   ·exact h.elim
 case callh x xs =>
  refine Iff.trans stp_callh ?_
  constructor
  ·rintro ⟨f, ys, zs, css, out, h1, h2, h3, h4, h5⟩
   cases out with
   | ret v =>
    revert h2 h3 h5
    simp only [Act1, Pan1]
    intro h2 h3 h5
    generalize hh : nub ((ys ++ xs.map st.ev ++ zs).flatMap boxesOf) = hs at h2 h3 h5
    cases hs with
    | nil => exact .inl ⟨_, ⟨f, ys, zs, css, .ret v, h1, by rw [hh]; exact h2, by rw [hh]; exact h3, h4, by rw [hh]; rfl⟩, by rw [hh] at *; exact h5⟩
    | cons a l =>
     obtain ⟨u, c, e, el, h⟩ := h5
     exact .inl ⟨_, ⟨f, ys, zs, css, .ret v, h1, by rw [hh]; exact h2, by rw [hh]; exact h3, h4, by rw [hh]; exact ⟨u, c, e, el, rfl⟩⟩, by rw [hh] at *; exact h⟩
   | pan v =>
    revert h2 h3 h5
    simp only [Act1, Pan1]
    intro h2 h3 h5
    generalize hh : nub ((ys ++ xs.map st.ev ++ zs).flatMap boxesOf) = hs at h2 h3 h5
    cases hs with
    | nil =>
     obtain ⟨p, hp, h5⟩ := h5
     exact .inr ⟨p, ⟨f, ys, zs, css, .pan v, h1, by rw [hh]; exact h2, by rw [hh]; exact h3, h4, by rw [hh]; exact hp⟩, h5⟩
    | cons a l =>
     obtain ⟨u, c, e, el, p, hp, h⟩ := h5
     exact .inr ⟨p, ⟨f, ys, zs, css, .pan v, h1, by rw [hh]; exact h2, by rw [hh]; exact h3, h4, by rw [hh]; exact ⟨u, c, e, el, hp⟩⟩, h⟩
  ·rintro (⟨r, ⟨f, ys, zs, css, out, h1, h2, h3, h4, h5⟩, h6⟩ | ⟨p, ⟨f, ys, zs, css, out, h1, h2, h3, h4, h5⟩, h6⟩)
   ·refine ⟨f, ys, zs, css, out, h1, h2, h3, h4, ?_⟩
    revert h5
    generalize nub ((ys ++ xs.map st.ev ++ zs).flatMap boxesOf) = hs
    intro h5
    cases out <;> cases hs <;> simp only [AOut.onH] at h5 ⊢
    ·subst h5; exact h6
    ·obtain ⟨u, c, e, el, h⟩ := h5; subst h; exact ⟨u, c, e, el, h6⟩
    ·obtain ⟨_, _, _, _, h⟩ := h5; exact h.elim
   ·refine ⟨f, ys, zs, css, out, h1, h2, h3, h4, ?_⟩
    revert h5
    generalize nub ((ys ++ xs.map st.ev ++ zs).flatMap boxesOf) = hs
    intro h5
    cases out <;> cases hs <;> simp only [AOut.onH] at h5 ⊢
    ·obtain ⟨_, _, _, _, h⟩ := h5; exact h.elim
    ·exact ⟨p, h5, h6⟩
    ·obtain ⟨u, c, e, el, h⟩ := h5; exact ⟨u, c, e, el, p, h, h6⟩
 case pan x =>
  constructor
  ·rintro ⟨t, u, p, h1, hp, h2⟩; exact .inr ⟨_, ⟨t, u, h1, hp⟩, h2⟩
  ·rintro (⟨_, h, _⟩ | ⟨_, ⟨t, u, h1, hp⟩, h2⟩)
   ·exact h.elim
   ·exact ⟨t, u, _, h1, hp, h2⟩
 all_goals exact q _ rfl
end Go.Proofs.YtnjmilelifmfpaaGreatDoor.Ev

namespace Go.Proofs.YtnjmilelifmfpaaGreatDoor.Ev
open Go Go.RowKit
set_option linter.unusedSimpArgs false
set_option linter.unusedVariables false

def ActG (P : Program) (E : Env) (id : Nat) (o : AOper) (b : Bool) (ev : Operand → AV) (bx : Nat → Option (List AV)) (gr : Gr) (r : Res) : Prop :=
 if b then Act1 P E id ev bx gr r o.op else r = ⟨.tup [], bx, gr⟩
def Step1 (P : Program) (E : Env) (id : Nat) (st st' : AS) (o : AOper) : Prop := ∃ b r, want st o.g = some b ∧ ActG P E id o b st.ev st.bx st.gr r ∧ st' = st.aft o.d r
def PanG (E : Env) (st : AS) (v : AV) (o : AOper) : Prop := want st o.g = some true ∧ Pan1 E st.ev st.bx st.gr v o.op
theorem stpG_iff {P : Program} {E : Env} {id : Nat} {st : AS} {K : AS → Prop} {X : AV → Prop} {o : AOper} : stpG P E id st K X o ↔ (∃ st', Step1 P E id st st' o ∧ K st') ∨ ∃ v, PanG E st v o ∧ X v := by
 unfold stpG Step1 PanG ActG
 constructor
 ·rintro ⟨b, hb, h⟩
  cases b with
  | false => exact .inl ⟨_, ⟨false, _, hb, rfl, rfl⟩, h⟩
  | true =>
   rcases stp_iff.1 h with ⟨r, h1, h2⟩ | ⟨v, h1, h2⟩
   ·exact .inl ⟨_, ⟨true, r, hb, h1, rfl⟩, h2⟩
   ·exact .inr ⟨v, ⟨hb, h1⟩, h2⟩
 ·rintro (⟨_, ⟨b, r, hb, h1, rfl⟩, h2⟩ | ⟨v, ⟨hb, h1⟩, h2⟩)
  ·cases b with
   | false => simp only [Bool.false_eq_true, if_false] at h1; subst h1; exact ⟨false, hb, h2⟩
   | true => exact ⟨true, hb, stp_iff.2 (.inl ⟨r, h1, h2⟩)⟩
  ·exact ⟨true, hb, stp_iff.2 (.inr ⟨v, h1, h2⟩)⟩
structure Eff where
 v : AV
 b : Option (List AV)
 k : Option Nat
 ks : List Nat
 n : Option GR
def Eff.bxs (e : Eff) (id : Nat) (bx : Nat → Option (List AV)) : Nat → Option (List AV) := match e.b with | some c => upd bx id (some c) | none => bx
def Eff.grs (e : Eff) (id : Nat) (gr : Gr) : Gr := match e.n with | some y => upd (shut (killT gr e.k) e.ks) id (some y) | none => shut (killT gr e.k) e.ks
def Eff.res (e : Eff) (id : Nat) (bx : Nat → Option (List AV)) (gr : Gr) : Res := ⟨e.v, e.bxs id bx, e.grs id gr⟩
def Eff.pure (v : AV) : Eff := ⟨v, none, none, [], none⟩
def GR.core (r : GR) : TypeId × Nat × List (List AV) := (r.e, r.sz, r.xs)
def SameX (a b : Option GR) : Prop := a.map GR.core = b.map GR.core
def refA : AV → List Nat
 | .rptr k _ _ _ => [k]
 | a => refs a
theorem SameX.xs {a b : Option GR} (h : SameX a b) : a.map (·.xs) = b.map (·.xs) := by
 unfold SameX at h
 cases a <;> cases b <;> simp_all [GR.core]
theorem SameX.isSome {a b : Option GR} (h : SameX a b) : a.isSome = b.isSome := by
 unfold SameX at h
 cases a <;> cases b <;> simp_all
theorem rowOf_same {gr gr' : Gr} {x : AV} (h : ∀ k ∈ refC x, SameX (gr' k) (gr k)) : rowOf gr' x = rowOf gr x := by
 cases x <;> try rfl
 case s x => cases x <;> first|rfl | (rename_i p n m; cases p <;> cases n <;> cases m <;> rfl)
 case ref k =>
  have := (h k (by simp [refC])).xs
  simp only [rowOf]
  revert this
  cases gr' k <;> cases gr k <;> simp
theorem refC_mem {x : AV} {k : Nat} (h : k ∈ refC x) : x = .ref k := by cases x <;> simp [refC] at h; rw [h]
theorem refA_refs {x : AV} {k : Nat} (h : k ∈ refs x) : k ∈ refA x := by cases x <;> first|exact h|(simp [refs, refC] at h)
theorem refA_of {x : AV} {k : Nat} (h : k ∈ refC x) : k ∈ refA x := by rw [refC_mem h]; simp [refA, refs, refC]
theorem pcell_same {gr gr' : Gr} {x : AV} (h : ∀ k ∈ refC x, SameX (gr' k) (gr k)) : pcell gr' x = pcell gr x := by
 cases x <;> try rfl
 case s x => cases x <;> first|rfl | (rename_i p n m; cases p <;> cases n <;> cases m <;> rfl)
 case ref k =>
  have := (h k (by simp [refC])).xs
  simp only [pcell]
  revert this
  cases gr' k <;> cases gr k <;> simp
theorem strip_same {gr gr' : Gr} {x : AV} (h : ∀ k ∈ refs x, SameX (gr' k) (gr k)) : strip gr' x = strip gr x := by
 cases x <;> simp only [strip] <;> first|rfl|exact pcell_same (fun k hk => h k (by simpa [refs] using hk)) | skip
 ·rename_i cs
  rw [List.map_congr_left fun y hy => pcell_same fun k hk => h k (by simp only [refs]; exact List.mem_flatMap.2 ⟨y, hy, hk⟩)]
 ·rename_i f xs ys
  rw [List.map_congr_left (l := xs) fun y hy => pcell_same fun k hk => h k (by simp only [refs]; exact List.mem_append_left _ (List.mem_flatMap.2 ⟨y, hy, hk⟩)), List.map_congr_left (l := ys) fun y hy => pcell_same fun k hk => h k (by simp only [refs]; exact List.mem_append_right _ (List.mem_flatMap.2 ⟨y, hy, hk⟩))]
theorem pcellK_same {gr gr' : Gr} {x : AV} (h : ∀ k ∈ refC x, SameX (gr' k) (gr k)) : pcellK gr' x = pcellK gr x := by
 unfold pcellK
 split <;> first|rfl|exact pcell_same h
theorem stripB_same {b : Bool} {gr gr' : Gr} {x : AV} (h : ∀ k ∈ refs x, SameX (gr' k) (gr k)) : stripB b gr' x = stripB b gr x := by
 cases b with
 | false => exact strip_same h
 | true =>
  show stripK gr' x = stripK gr x
  unfold stripK
  split
  ·rename_i cs
   rw [List.map_congr_left fun y hy => pcellK_same fun k hk => h k (by simp only [refs]; exact List.mem_flatMap.2 ⟨y, hy, hk⟩)]
  ·rfl
  ·exact strip_same h
theorem elemsOf_same {gr gr' : Gr} {sz : Nat} : ∀ {l : List AV}, (∀ k ∈ l.flatMap refs, SameX (gr' k) (gr k)) → elemsOf gr' sz l = elemsOf gr sz l
 | [], _ => rfl
 | v :: r, h => by
  simp only [elemsOf]
  rw [strip_same fun k hk => h k (by simp [hk]), elemsOf_same fun k hk => h k (by simp only [List.flatMap_cons]; exact List.mem_append_right _ hk)]
theorem here_same {gr gr' : Gr} {ks : List Nat} (h : ∀ k ∈ ks, SameX (gr' k) (gr k)) : here gr' ks = here gr ks := by
 unfold here
 induction ks with
 | nil => rfl
 | cons k ks ih => simp only [List.all_cons]; rw [(h k (List.mem_cons_self ..)).isSome, ih fun k hk => h k (List.mem_cons_of_mem _ hk)]
theorem here_mem {gr : Gr} {ks : List Nat} (h : here gr ks = true) : ∀ k ∈ ks, gr k ≠ none := fun k hk e => by
 have := List.all_eq_true.1 h k hk
 rw [e] at this; cases this

inductive Kind (P : Program) (E : Env) (id : Nat) (o : AOper) (b : Bool) (ev : Operand → AV) (bx : Nat → Option (List AV)) (gr : Gr) (r : Res) : Prop
 | A (e : Eff) (N BR : List Nat) : r = e.res id bx gr → (∀ k ∈ N, gr k ≠ none ∧ ∃ x ∈ o.op.opds, k ∈ refA (ev x)) → (∀ q ∈ BR, ∃ x ∈ o.op.opds, ∃ f, ev x = .ptr q f) →
   (∀ k, e.k = some k → k ∈ N ∧ ∃ y, gr k = some y ∧ y.live = true) → (∀ k ∈ e.ks, k ∈ N) →
   (∀ ev' bx' gr', (∀ x ∈ o.op.opds, ev' x = ev x) → (∀ q ∈ BR, bx' q = bx q) → (∀ k ∈ N, SameX (gr' k) (gr k)) → (∀ k, e.k = some k → gr' k = gr k) → ActG P E id o b ev' bx' gr' (e.res id bx' gr')) →
   (e.k ≠ none → o.op.cls = 6) → (∀ k ∈ N, k ∈ e.ks ∨ o.op.cls = 1 ∨ o.op.cls = 5 ∨ o.op.cls = 6) → (o.op.cls = 0 → e = .pure e.v ∧ N = [] ∧ BR = []) → o.op.cls ≠ 4 ∨ e = .pure e.v ∧ N = [] ∧ BR = [] → Kind P E id o b ev bx gr r
 | D : o.op.cls = 4 → (∀ ev', (∀ x ∈ o.op.opds, ev' x = ev x) → ActG P E id o b ev' bx gr r) → Kind P E id o b ev bx gr r
section
variable {P : Program} {E : Env} {id : Nat} {b : Bool} {ev : Operand → AV} {bx : Nat → Option (List AV)} {gr : Gr} {r : Res} {d : Option Nat} {gd : Option (Nat × Bool)} {op : AOp}
theorem shut_nil {gr : Gr} : shut gr [] = gr := funext fun k => if_neg (by simp)
theorem pure_res {v : AV} : (Eff.pure v).res id bx gr = ⟨v, bx, gr⟩ := by simp [Eff.res, Eff.pure, Eff.bxs, Eff.grs, killT, shut_nil]
theorem kind_q (h : Act1 P E id ev bx gr r op) (hq : op.quiet = true) (N BR : List Nat) (h1 : ∀ k ∈ N, gr k ≠ none ∧ ∃ x ∈ op.opds, k ∈ refA (ev x)) (h2 : ∀ q ∈ BR, ∃ x ∈ op.opds, ∃ f, ev x = .ptr q f) (h3 : ∀ k ∈ N, op.cls = 1)
  (h4 : op.cls = 0 → N = [] ∧ BR = []) (hc : op.cls ≠ 4) (hs : ∀ ev' bx' gr', (∀ x ∈ op.opds, ev' x = ev x) → (∀ q ∈ BR, bx' q = bx q) → (∀ k ∈ N, SameX (gr' k) (gr k)) → pv P ev' bx' gr' op = pv P ev bx gr op) : Kind P E id ⟨d, gd, op⟩ true ev bx gr r := by
 have e : Act1 P E id ev bx gr r op = ∃ v, pv P ev bx gr op = some v ∧ r = ⟨v, bx, gr⟩ := by cases op <;> first|rfl | (cases hq)
 rw [e] at h
 obtain ⟨v, hv, rfl⟩ := h
 have f : ∀ ev' bx' gr' v, pv P ev' bx' gr' op = some v → Act1 P E id ev' bx' gr' ⟨v, bx', gr'⟩ op := fun ev' bx' gr' v hv => by cases op <;> first|exact ⟨v, hv, rfl⟩ | (cases hq)
 refine .A (.pure v) N BR pure_res.symm h1 h2 (by simp [Eff.pure]) (by simp [Eff.pure]) (fun ev' bx' gr' he hb hg _ => ?_) (by simp [Eff.pure]) (fun k hk => .inr (.inl (h3 k hk))) (fun h0 => ⟨rfl, h4 h0⟩) (.inl hc)
 rw [pure_res]
 exact f _ _ _ _ (by rw [hs ev' bx' gr' he hb hg]; exact hv)
theorem kind {o : AOper} (h : ActG P E id o b ev bx gr r) : Kind P E id o b ev bx gr r := by
 cases b with
 | false =>
  have e : r = ⟨.tup [], bx, gr⟩ := h
  subst e
  refine .A (.pure (.tup [])) [] [] pure_res.symm (by simp) (by simp) (by simp [Eff.pure]) (by simp [Eff.pure]) (fun ev' bx' gr' _ _ _ _ => ?_) (by simp [Eff.pure]) (by simp) (fun _ => ⟨rfl, rfl, rfl⟩) (.inr ⟨rfl, rfl, rfl⟩)
  rw [pure_res]; rfl
 | true =>
  replace h : Act1 P E id ev bx gr r o.op := h
  obtain ⟨d, gd, op⟩ := o
  dsimp only at h
  cases op
  case ld ag n x =>
   have hv : ∃ v, pv P ev bx gr (.ld ag n x) = some v := by obtain ⟨v, hv, _⟩ := h; exact ⟨v, hv⟩
   cases hx : ev x with
   | ptr q f =>
    refine kind_q h rfl [] [q] (by simp) (by simp [AOp.opds, hx]) (by simp) (by simp [AOp.cls]) (by simp [AOp.cls]) fun ev' bx' gr' he hb hg => ?_
    simp only [pv, he x (by simp [AOp.opds]), hx, hb q (by simp)]
   | rptr k sz i f =>
    have hk : gr k ≠ none := fun e => by obtain ⟨v, hv⟩ := hv; simp [pv, hx, e] at hv
    refine kind_q h rfl [k] [] (by simpa [AOp.opds, hx, refA] using hk) (by simp) (by simp [AOp.cls]) (by simp [AOp.cls]) (by simp [AOp.cls]) fun ev' bx' gr' he hb hg => ?_
    have hsx := hg k (by simp)
    simp only [pv, he x (by simp [AOp.opds]), hx]
    unfold SameX at hsx
    revert hsx
    cases gr' k <;> cases gr k <;> simp [GR.core]
    rintro _ h1 h2; rw [h1, h2]
   | _ =>
    refine kind_q h rfl [] [] (by simp) (by simp) (by simp) (by simp) (by simp [AOp.cls]) fun ev' bx' gr' he hb hg => ?_
    simp only [pv, he x (by simp [AOp.opds]), hx]
  case ia sz x i =>
   have hv : ∃ v, pv P ev bx gr (.ia sz x i) = some v := by obtain ⟨v, hv, _⟩ := h; exact ⟨v, hv⟩
   cases hx : ev x with
   | ref k =>
    have hk : gr k ≠ none := fun e => by obtain ⟨v, hv⟩ := hv; simp [pv, hx, e] at hv
    refine kind_q h rfl [k] [] (by intro q hq; simp at hq; subst hq; exact ⟨hk, x, by simp [AOp.opds], by rw [hx]; simp [refA, refs, refC]⟩) (by simp) (by simp [AOp.cls]) (by simp [AOp.cls]) (by simp [AOp.cls]) fun ev' bx' gr' he hb hg => ?_
    have hsx := hg k (by simp)
    simp only [pv, he x (by simp [AOp.opds]), he i (by simp [AOp.opds]), hx]
    unfold SameX at hsx
    revert hsx
    cases gr' k <;> cases gr k <;> simp [GR.core]
    rintro _ h1 h2; cases idxOf (ev i) <;> simp [h1, h2]
   | _ =>
    refine kind_q h rfl [] [] (by simp) (by simp) (by simp) (by simp) (by simp [AOp.cls]) fun ev' bx' gr' he hb hg => ?_
    simp only [pv, he x (by simp [AOp.opds]), he i (by simp [AOp.opds]), hx]
  case ln x =>
   have hv : ∃ v, pv P ev bx gr (.ln x) = some v := by obtain ⟨v, hv, _⟩ := h; exact ⟨v, hv⟩
   refine kind_q h rfl (refC (ev x)) [] (fun k hk => ⟨fun e => ?_, x, by simp [AOp.opds], refA_of hk⟩) (by simp) (by simp [AOp.cls]) (by simp [AOp.cls]) (by simp [AOp.cls]) fun ev' bx' gr' he hb hg => ?_
   ·obtain ⟨v, hv⟩ := hv
    simp [pv, refC_mem hk, rowOf, e] at hv
   ·simp only [pv, he x (by simp [AOp.opds])]
    rw [rowOf_same hg]
  case bts x =>
   have hv : ∃ v, pv P ev bx gr (.bts x) = some v := by obtain ⟨v, hv, _⟩ := h; exact ⟨v, hv⟩
   refine kind_q h rfl (refC (ev x)) [] (fun k hk => ⟨fun e => ?_, x, by simp [AOp.opds], refA_of hk⟩) (by simp) (by simp [AOp.cls]) (by simp [AOp.cls]) (by simp [AOp.cls]) fun ev' bx' gr' he hb hg => ?_
   ·obtain ⟨v, hv⟩ := hv
    simp [pv, refC_mem hk, rowOf, e] at hv
   ·simp only [pv, he x (by simp [AOp.opds])]
    rw [rowOf_same hg]
  case box x =>
   obtain ⟨cs, h1, rfl⟩ := h
   refine .A ⟨.ptr id 0, some cs, none, [], none⟩ [] [] (by simp [Eff.res, Eff.bxs, Eff.grs, killT, shut_nil]) (by simp) (by simp) (by simp) (by simp) (fun ev' bx' gr' he _ _ _ => ?_) (by simp) (by simp) (by simp [AOp.cls]) (.inl (by simp [AOp.cls]))
   exact ⟨cs, by rw [he x (by simp [AOp.opds])]; exact h1, by simp [Eff.res, Eff.bxs, Eff.grs, killT, shut_nil]⟩
  case alloc z =>
   obtain rfl := h
   refine .A ⟨.ptr id 0, some (z.map .s), none, [], none⟩ [] [] (by simp [Eff.res, Eff.bxs, Eff.grs, killT, shut_nil]) (by simp) (by simp) (by simp) (by simp) (fun ev' bx' gr' he _ _ _ => ?_) (by simp) (by simp) (by simp [AOp.cls]) (.inl (by simp [AOp.cls]))
   show _ = _
   simp [Eff.res, Eff.bxs, Eff.grs, killT, shut_nil]
  case st n p x =>
   refine .D rfl fun ev' he => ?_
   have : Act1 P E id ev' bx gr r (.st n p x) := by
    simp only [Act1, he p (by simp [AOp.opds]), he x (by simp [AOp.opds])]
    exact h
   exact this
  case bs e sz ps =>
   obtain ⟨xs, h1, h0, rfl⟩ := h
   refine .A ⟨.ref id, none, none, (ps.map ev).flatMap refs, some ⟨e, sz, xs, true⟩⟩ ((ps.map ev).flatMap refs) [] (by simp [Eff.res, Eff.bxs, Eff.grs, killT]) (fun k hk => ⟨here_mem h0 k hk, ?_⟩) (by simp) (by simp) (fun k hk => hk) (fun ev' bx' gr' he _ hg _ => ?_) (by simp) (fun k hk => .inl hk) (by simp [AOp.cls]) (.inl (by simp [AOp.cls]))
   ·obtain ⟨y, hy, hk⟩ := List.mem_flatMap.1 hk
    obtain ⟨x, hx, rfl⟩ := List.mem_map.1 hy
    exact ⟨x, hx, refA_refs hk⟩
   ·have hm : ps.map ev' = ps.map ev := List.map_congr_left he
    refine ⟨xs, by rw [hm, elemsOf_same hg]; exact h1, by rw [hm, here_same hg]; exact h0, by simp [Eff.res, Eff.bxs, Eff.grs, killT, hm]⟩
  case ap e sz bytes x y =>
   obtain ⟨k, xs, ys, h1, h2, h3, h4, rfl⟩ := h
   have hk : ∀ k', k = some k' → ev x = .ref k' ∧ ∃ y, gr k' = some y ∧ y.live = true := fun k' hk => by
    subst hk
    unfold growOf at h1
    split at h1
    ·cases h1
    ·rename_i heq
     split at h1
     ·rename_i r hr
      split at h1
      ·rename_i hc; cases h1; exact ⟨heq, r, hr, hc.2.2⟩
      ·cases h1
     ·cases h1
    ·cases h1
   refine .A ⟨.ref id, none, k, [], some ⟨e, sz, xs ++ ys, true⟩⟩ (k.toList ++ refC (ev y)) [] (by simp [Eff.res, Eff.bxs, Eff.grs, shut_nil]) (fun q hq => ?_) (by simp) (fun k' hk' => ⟨by simp [show k = some k' from hk'], (hk k' hk').2⟩) (by simp) (fun ev' bx' gr' he _ hg hk' => ?_) (by simp [AOp.cls]) (by simp [AOp.cls]) (by simp [AOp.cls]) (.inl (by simp [AOp.cls]))
   ·rcases List.mem_append.1 hq with hq | hq
    ·have hq' : k = some q := by simpa using hq
     obtain ⟨a1, z, a2, _⟩ := hk q hq'
     exact ⟨by rw [a2]; simp, x, by simp [AOp.opds], by rw [a1]; simp [refA, refs, refC]⟩
    ·refine ⟨fun e => ?_, y, by simp [AOp.opds], refA_of hq⟩
     rw [refC_mem hq] at h2; simp [rowOf, e] at h2
   ·refine ⟨k, xs, ys, ?_, by rw [he y (by simp [AOp.opds]), rowOf_same fun q hq => hg q (List.mem_append_right _ hq)]; exact h2, h3, h4, by simp [Eff.res, Eff.bxs, Eff.grs, shut_nil]⟩
    rw [he x (by simp [AOp.opds])]
    cases k with
    | none =>
     unfold growOf at h1 ⊢
     split at h1
     ·exact h1
     ·split at h1
      ·split at h1 <;> cases h1
      ·cases h1
     ·cases h1
    | some k' =>
     rw [(hk k' rfl).1] at h1 ⊢
     simp only [growOf] at h1 ⊢
     rw [hk' k' rfl]; exact h1
  case call f xs =>
   obtain ⟨kk, v, h1, h0, rfl⟩ := h
   refine .A ⟨v, none, none, lent v ((xs.map ev).flatMap refs), none⟩ ((xs.map ev).flatMap refs) [] (by simp [Eff.res, Eff.bxs, Eff.grs, killT]) (fun k hk => ⟨here_mem h0 k hk, ?_⟩) (by simp) (by simp) (fun k hk => by unfold lent at hk; split at hk <;> first|exact hk | cases hk) (fun ev' bx' gr' he _ hg _ => ?_) (by simp) (fun k hk => .inr (.inr (.inl rfl))) (by simp [AOp.cls]) (.inl (by simp [AOp.cls]))
   ·obtain ⟨y, hy, hk⟩ := List.mem_flatMap.1 hk
    obtain ⟨x, hx, rfl⟩ := List.mem_map.1 hy
    exact ⟨x, hx, refA_refs hk⟩
   ·have hm : xs.map ev' = xs.map ev := List.map_congr_left he
    have hst : (xs.map fun x => stripB kk gr' (ev' x)) = xs.map fun x => stripB kk gr (ev x) := List.map_congr_left fun x hx => by
     rw [he x hx, stripB_same fun k hk => hg k (List.mem_flatMap.2 ⟨ev x, List.mem_map_of_mem hx, hk⟩)]
    exact ⟨kk, v, by rw [hst]; exact h1, by rw [hm, here_same hg]; exact h0, by simp [Eff.res, Eff.bxs, Eff.grs, killT, hm]⟩
  case pan x => exact h.elim
  case mks e sz bytes z x =>
   obtain ⟨n, h1, h0, rfl⟩ := h
   refine .A ⟨.ref id, none, none, [], some ⟨e, sz, List.replicate n (z.map .s), true⟩⟩ [] [] (by simp [Eff.res, Eff.bxs, Eff.grs, killT, shut_nil]) (by simp) (by simp) (by simp) (by simp) (fun ev' bx' gr' he _ _ _ => ?_) (by simp) (by simp) (by simp [AOp.cls]) (.inl (by simp [AOp.cls]))
   exact ⟨n, by rw [he x (by simp [AOp.opds])]; exact h1, h0, by simp [Eff.res, Eff.bxs, Eff.grs, killT, shut_nil]⟩
  case callh x xs =>
   refine .D rfl fun ev' he => ?_
   have e1 : ev' x = ev x := he x (by simp [AOp.opds])
   have e2 : xs.map ev' = xs.map ev := List.map_congr_left fun y hy => he y (by simp [AOp.opds, hy])
   have : Act1 P E id ev' bx gr r (.callh x xs) := by
    simp only [Act1, e1, e2]
    exact h
   exact this
  all_goals exact kind_q h rfl [] [] (by simp) (by simp) (by simp) (by simp) (by simp [AOp.cls]) fun ev' bx' gr' he hb hg => by rw [pv_congr he]; exact pv_bx (by simp [AOp.cls])
end
end Go.Proofs.YtnjmilelifmfpaaGreatDoor.Ev

namespace Go.Proofs.YtnjmilelifmfpaaGreatDoor.Ev
open Go Go.RowKit
set_option linter.unusedSimpArgs false
set_option linter.unusedVariables false

def Fresh (fr : Nat → Prop) (st : AS) : Prop := (∀ x b o, st.ev x = .ptr b o → ¬ fr b) ∧ ∀ x, ∀ k ∈ refA (st.ev x), ¬ fr k
theorem aft_ev {st : AS} {d : Option Nat} {r : Res} {l : List Operand} (h : ∀ i, d = some i → i ∉ tmpsOf l) : ∀ x ∈ l, (st.aft d r).ev x = st.ev x := fun x hx => by
 cases d with
 | none => cases x <;> rfl
 | some i =>
  cases x with
  | tmp t =>
   have : t ≠ i := fun e => h i rfl (List.mem_filterMap.2 ⟨.tmp t, hx, by rw [e]⟩)
   simp [AS.aft, AS.put, AS.ev, this]
  | _ => rfl
theorem aft_want {st : AS} {d : Option Nat} {r : Res} {g : Option (Nat × Bool)} (h : ∀ i, d = some i → ∀ t b, g = some (t, b) → t ≠ i) : want (st.aft d r) g = want st g := by
 cases g with
 | none => rfl
 | some tb =>
  obtain ⟨t, b⟩ := tb
  have : (st.aft d r).t t = st.t t := by
   cases d with
   | none => rfl
   | some i => simp [AS.aft, AS.put, h i rfl t b rfl]
  simp only [want, this]
theorem apart_spec {x y : AOper} (h : apart x y = true) : (∀ i, x.d = some i → i ∉ y.reads) ∧ (∀ i, x.d = some i → y.d ≠ some i) ∧ (∀ i, y.d = some i → i ∉ x.reads) ∧ clsOk x.op.cls y.op.cls = true := by
 unfold apart at h
 simp only [Bool.and_eq_true] at h
 obtain ⟨⟨h1, h2⟩, h3⟩ := h
 refine ⟨fun i hi => ?_, fun i hi => ?_, fun i hi => ?_, h3⟩
 ·simp [hi] at h1; exact h1.1
 ·simp [hi] at h1; exact h1.2
 ·simp [hi] at h2; exact h2
theorem reads_op {o : AOper} {d : Option Nat} (h : ∀ i, d = some i → i ∉ o.reads) : (∀ i, d = some i → i ∉ tmpsOf o.op.opds) ∧ ∀ i, d = some i → ∀ t b, o.g = some (t, b) → t ≠ i := by
 refine ⟨fun i hi hm => h i hi (List.mem_append_right _ hm), fun i hi t b hg he => h i hi ?_⟩
 unfold AOper.reads
 rw [hg, he]
 simp
theorem aft_comm {st : AS} {di dj : Option Nat} {vi vj : AV} {b1 b2 b3 : Nat → Option (List AV)} {l1 l2 l3 : Gr} (h : ∀ i, di = some i → dj ≠ some i) :
  (st.aft dj ⟨vj, b1, l1⟩).aft di ⟨vi, b2, l2⟩ = (st.aft di ⟨vi, b3, l3⟩).aft dj ⟨vj, b2, l2⟩ := by
 cases di <;> cases dj <;> try rfl
 rename_i i j
 have : j ≠ i := fun e => h i rfl (by rw [e])
 simp only [AS.aft, AS.put]
 congr 1
 funext k
 by_cases hk : k = i
 ·subst hk; rw [if_pos rfl]; rw [if_neg (Ne.symm this)]; rw [if_pos rfl]
 ·rw [if_neg hk]
  by_cases hk' : k = j
  ·rw [if_pos hk', if_pos hk']
  ·rw [if_neg hk', if_neg hk', if_neg hk]
theorem aft_bx (st : AS) (d : Option Nat) (r : Res) : (st.aft d r).bx = r.bx := by cases d <;> rfl
theorem aft_gr (st : AS) (d : Option Nat) (r : Res) : (st.aft d r).gr = r.gr := by cases d <;> rfl
theorem upd_comm {α : Type} {f : Nat → Option α} {i j : Nat} {a b : Option α} (h : i ≠ j) : upd (upd f i a) j b = upd (upd f j b) i a := by
 funext k; unfold upd; split <;> split <;> first|rfl | (subst_vars; exact absurd rfl h)
theorem upd_ne {α : Type} {f : Nat → Option α} {i j : Nat} {a : Option α} (h : j ≠ i) : upd f i a j = f j := if_neg h
theorem Eff.bxs_ne {e : Eff} {id q : Nat} {bx : Nat → Option (List AV)} (h : q ≠ id) : e.bxs id bx q = bx q := by
 unfold Eff.bxs
 cases e.b with
 | some c => exact upd_ne h
 | none => rfl
theorem Eff.grs_ne {e : Eff} {id k : Nat} {gr : Gr} (h : k ≠ id) : e.grs id gr k = if k ∈ e.ks then (killT gr e.k k).map GR.shut else killT gr e.k k := by
 unfold Eff.grs
 cases e.n with
 | some y => show upd _ _ _ k = _; rw [upd_ne h]; rfl
 | none => rfl
theorem killT_ne {gr : Gr} {a : Option Nat} {k : Nat} (h : a ≠ some k) : killT gr a k = gr k := by
 cases a with
 | none => rfl
 | some j => exact upd_ne fun e => h (by rw [e])
theorem killT_hit {gr : Gr} {k : Nat} : killT gr (some k) k = none := if_pos rfl
theorem same_refl (a : Option GR) : SameX a a := rfl
theorem same_shut (a : Option GR) : SameX (a.map GR.shut) a := by cases a <;> rfl
section
variable {P : Program} {E : Env} {fr : Nat → Prop} {st s1 s2 : AS} {i j : Nat} {oi oj : AOper}
theorem comm (hap : apart oi oj = true) (hF : Fresh fr st) (hi : fr i) (hj : fr j) (hij : i ≠ j) (h1 : Step1 P E j st s1 oj) (h2 : Step1 P E i s1 s2 oi) :
  ∃ s1', Step1 P E i st s1' oi ∧ Step1 P E j s1' s2 oj := by
 obtain ⟨a1, a2, a3, a4⟩ := apart_spec hap
 obtain ⟨bj, rj, wj, cj, rfl⟩ := h1
 obtain ⟨bi, ri, wi, ci, rfl⟩ := h2
 obtain ⟨ri1, ri2⟩ := reads_op a3
 obtain ⟨rj1, rj2⟩ := reads_op a1
 rw [aft_want ri2] at wi
 have evi : ∀ x ∈ oi.op.opds, st.ev x = (st.aft oj.d rj).ev x := fun x hx => (aft_ev ri1 x hx).symm
 have goj : ∀ (ri' : Res) (rj' : Res), ActG P E i oi bi st.ev st.bx st.gr ri' → ActG P E j oj bj (st.aft oi.d ri').ev ri'.bx ri'.gr rj' → (st.aft oj.d rj).aft oi.d ri = (st.aft oi.d ri').aft oj.d rj' →
   ∃ s1', Step1 P E i st s1' oi ∧ Step1 P E j s1' ((st.aft oj.d rj).aft oi.d ri) oj := fun ri' rj' x y z =>
  ⟨_, ⟨bi, ri', wi, x, rfl⟩, bj, rj', by rw [aft_want rj2]; exact wj, by rw [aft_bx, aft_gr]; exact y, z⟩
 have goj' : ∀ {s2 : AS} (ri' : Res) (rj' : Res), ActG P E i oi bi st.ev st.bx st.gr ri' → ActG P E j oj bj (st.aft oi.d ri').ev ri'.bx ri'.gr rj' → s2 = (st.aft oi.d ri').aft oj.d rj' →
   ∃ s1', Step1 P E i st s1' oi ∧ Step1 P E j s1' s2 oj := fun ri' rj' x y z =>
  ⟨_, ⟨bi, ri', wi, x, rfl⟩, bj, rj', by rw [aft_want rj2]; exact wj, by rw [aft_bx, aft_gr]; exact y, z⟩
 have evj : ∀ (r : Res), ∀ x ∈ oj.op.opds, (st.aft oi.d r).ev x = st.ev x := fun r => aft_ev rj1
 rw [aft_bx, aft_gr] at ci
 cases kind cj with
 | A ej Nj Bj ej' nj1 bj1 kj1 kj2 mj sj1 sj2 sj3 sj4 =>
  subst ej'
  have hjne : ∀ k ∈ Nj, k ≠ i ∧ k ≠ j := fun k hk => by
   obtain ⟨_, x, hx, hm⟩ := nj1 k hk
   have := hF.2 x k hm
   exact ⟨fun e => this (by rw [e]; exact hi), fun e => this (by rw [e]; exact hj)⟩
  have hbne : ∀ q ∈ Bj, q ≠ i := fun q hq e => by
   obtain ⟨x, hx, f, hf⟩ := bj1 q hq
   exact hF.1 x q f hf (by rw [e]; exact hi)
  cases kind ci with
  | A ei Ni Bi ei' ni1 bi1 ki1 ki2 mi si1 si2 si3 si4 =>
   subst ei'
   simp only [Eff.res] at ni1 ki1 mi ⊢
   have hine : ∀ k ∈ Ni, k ≠ i ∧ k ≠ j := fun k hk => by
    obtain ⟨_, x, hx, hm⟩ := ni1 k hk
    have hm' : k ∈ refA (st.ev x) := by rw [evi x hx]; exact hm
    have := hF.2 x k hm'
    exact ⟨fun e => this (by rw [e]; exact hi), fun e => this (by rw [e]; exact hj)⟩
   have hibne : ∀ q ∈ Bi, q ≠ j := fun q hq e => by
    obtain ⟨x, hx, f, hf⟩ := bi1 q hq
    have hf' : st.ev x = .ptr q f := by rw [evi x hx]; exact hf
    exact hF.1 x q f hf' (by rw [e]; exact hj)
   have hnk : ∀ k ∈ Ni, ej.k ≠ some k := fun k hk e => by
    obtain ⟨h0, _⟩ := ni1 k hk
    rw [Eff.grs_ne (hine k hk).2, e, killT_hit] at h0
    split at h0 <;> exact h0 rfl
   have hsame : ∀ k ∈ Ni, SameX (st.gr k) (ej.grs j st.gr k) := fun k hk => by
    rw [Eff.grs_ne (hine k hk).2, killT_ne (hnk k hk)]
    split
    ·exact (same_shut _).symm
    ·exact same_refl _
   have hki : ∀ k, ei.k = some k → ej.grs j st.gr k = st.gr k ∧ k ∉ ej.ks := fun k hk => by
    obtain ⟨hN, y, hy, hl⟩ := ki1 k hk
    rw [Eff.grs_ne (hine k hN).2, killT_ne (hnk k hN)] at hy ⊢
    split at hy
    ·rename_i hm
     cases hg : st.gr k with
     | none => rw [hg] at hy; cases hy
     | some z => rw [hg] at hy; cases hy; cases hl
    ·rename_i hm; exact ⟨by rw [if_neg hm], hm⟩
   have hkN : ∀ k, ei.k = some k → k ∉ Nj := fun k hk hm => by
    rcases sj2 k hm with h | h | h | h
    ·exact (hki k hk).2 h
    ·simp [clsOk, si1 (by rw [hk]; simp), h] at a4
    ·simp [clsOk, si1 (by rw [hk]; simp), h] at a4
    ·simp [clsOk, si1 (by rw [hk]; simp), h] at a4
   refine goj ⟨ei.v, ei.bxs i st.bx, ei.grs i st.gr⟩ ⟨ej.v, ej.bxs j (ei.bxs i st.bx), ej.grs j (ei.grs i st.gr)⟩ (mi _ _ _ evi (fun q hq => (Eff.bxs_ne (hibne q hq)).symm) hsame fun k hk => (hki k hk).1.symm)
    (mj _ _ _ (evj _) (fun q hq => Eff.bxs_ne (hbne q hq)) (fun k hk => ?_) fun k hk => ?_) ?_
   ·show SameX (ei.grs i st.gr k) _
    rw [Eff.grs_ne (hjne k hk).1, killT_ne fun e => hkN k e hk]
    split
    ·exact same_shut _
    ·exact same_refl _
   ·show ei.grs i st.gr k = _
    have hkj := (kj1 k hk).1
    rw [Eff.grs_ne (hjne k hkj).1, killT_ne fun e => hkN k e hkj, if_neg fun hm => hnk k (ki2 k hm) hk]
   ·have e1 : ei.bxs i (ej.bxs j st.bx) = ej.bxs j (ei.bxs i st.bx) := by
     unfold Eff.bxs
     cases ei.b <;> cases ej.b <;> first|rfl|exact upd_comm (Ne.symm hij)
    have e2 : ei.grs i (ej.grs j st.gr) = ej.grs j (ei.grs i st.gr) := by
     funext k
     by_cases hki' : k = i
     ·subst hki'
      rw [Eff.grs_ne (e := ej) hij]
      have hnj : k ∉ ej.ks := fun hm => (hjne k (kj2 k hm)).1 rfl
      have hnk' : ej.k ≠ some k := fun e => (hjne k (kj1 k e).1).1 rfl
      rw [if_neg hnj, killT_ne hnk']
      unfold Eff.grs
      cases ei.n with
      | some y => simp [upd]
      | none =>
       simp only
       have hni : k ∉ ei.ks := fun hm => (hine k (ki2 k hm)).1 rfl
       have hnk'' : ei.k ≠ some k := fun e => (hine k (ki1 k e).1).1 rfl
       unfold shut
       rw [if_neg hni, killT_ne hnk'', if_neg hni, killT_ne hnk'']
       have : ej.grs j st.gr k = st.gr k := by rw [Eff.grs_ne hij, if_neg hnj, killT_ne hnk']
       unfold Eff.grs shut at this
       exact this
     ·by_cases hkj' : k = j
      ·subst hkj'
       rw [Eff.grs_ne (e := ei) hki']
       have hni : k ∉ ei.ks := fun hm => (hine k (ki2 k hm)).2 rfl
       have hnk' : ei.k ≠ some k := fun e => (hine k (ki1 k e).1).2 rfl
       rw [if_neg hni, killT_ne hnk']
       unfold Eff.grs
       cases ej.n with
       | some y => simp [upd]
       | none =>
        simp only
        have hnj : k ∉ ej.ks := fun hm => (hjne k (kj2 k hm)).2 rfl
        have hnk'' : ej.k ≠ some k := fun e => (hjne k (kj1 k e).1).2 rfl
        unfold shut
        rw [if_neg hnj, killT_ne hnk'', if_neg hnj, killT_ne hnk'']
        have : ei.grs i st.gr k = st.gr k := by rw [Eff.grs_ne hki', if_neg hni, killT_ne hnk']
        unfold Eff.grs shut at this
        exact this.symm
      ·rw [Eff.grs_ne hki', Eff.grs_ne hkj']
       have hk2 : ∀ (e : Eff) (g : Gr), killT g e.k k = if e.k = some k then none else g k := fun e g => by
        split
        ·rename_i h; rw [h, killT_hit]
        ·rename_i h; exact killT_ne h
       rw [hk2 ei, hk2 ej, Eff.grs_ne hkj', Eff.grs_ne hki', hk2 ej, hk2 ei]
       by_cases p1 : ei.k = some k <;> by_cases p2 : ej.k = some k <;> by_cases p3 : k ∈ ei.ks <;> by_cases p4 : k ∈ ej.ks <;> simp [p1, p2, p3, p4] <;> cases st.gr k <;> rfl
    show (st.aft oj.d ⟨ej.v, ej.bxs j st.bx, ej.grs j st.gr⟩).aft oi.d ⟨ei.v, ei.bxs i (ej.bxs j st.bx), ei.grs i (ej.grs j st.gr)⟩ = _
    rw [e1, e2]
    exact aft_comm a2
  | D hc mi =>
   have hj0 : oj.op.cls = 0 := by
    cases h0 : oj.op.cls with
    | zero => rfl
    | succ n => simp [clsOk, hc, h0] at a4
   obtain ⟨e0, rfl, rfl⟩ := sj3 hj0
   have er : ej.res j st.bx st.gr = ⟨ej.v, st.bx, st.gr⟩ := by rw [e0]; exact pure_res
   have mi' := mi st.ev evi
   rw [er] at mi' ⊢
   refine goj' ri ⟨ej.v, ri.bx, ri.gr⟩ mi' ?_ (by cases ri; exact aft_comm a2)
   have := mj (st.aft oi.d ri).ev ri.bx ri.gr (evj _) (by simp) (by simp) (by rw [e0]; simp [Eff.pure])
   rwa [show ej.res j ri.bx ri.gr = ⟨ej.v, ri.bx, ri.gr⟩ by rw [e0]; exact pure_res] at this
 | D hc mj =>
  have hi0 : oi.op.cls = 0 := by
   cases h0 : oi.op.cls with
   | zero => rfl
   | succ n => simp [clsOk, hc, h0] at a4
  cases kind ci with
  | A ei Ni Bi ei' ni1 bi1 ki1 ki2 mi si1 si2 si3 si4 =>
   obtain ⟨e0, rfl, rfl⟩ := si3 hi0
   have e' : ri = ⟨ei.v, rj.bx, rj.gr⟩ := by rw [ei', e0]; exact pure_res
   subst e'
   refine goj ⟨ei.v, st.bx, st.gr⟩ rj ?_ (mj _ (evj _)) (by cases rj; exact aft_comm a2)
   have := mi st.ev st.bx st.gr evi (by simp) (by simp) (by rw [e0]; simp [Eff.pure])
   rwa [show ei.res i st.bx st.gr = ⟨ei.v, st.bx, st.gr⟩ by rw [e0]; exact pure_res] at this
  | D hc' mi => rw [hi0] at hc'; cases hc'
end
end Go.Proofs.YtnjmilelifmfpaaGreatDoor.Ev

namespace Go.Proofs.YtnjmilelifmfpaaGreatDoor.Ev
open Go Go.RowKit
set_option linter.unusedSimpArgs false
set_option linter.unusedVariables false

inductive Dep (ops : Array Oper) : Nat → Nat → Prop
 | one {i : Nat} {o : Oper} {e : Edge} : ops[i]? = some o → e ∈ o.after → Region.binds .any e = true → Dep ops i e.on
 | more {i j : Nat} {o : Oper} {e : Edge} : ops[i]? = some o → e ∈ o.after → Region.binds .any e = true → Dep ops e.on j → Dep ops i j
def bef1 (acc : Array Nat) (l : List Edge) (s : Nat) : Nat := l.foldl (fun s e => if Region.binds .any e then s ||| 2 ^ e.on ||| acc.getD e.on 0 else s) s
def befs : List Oper → Array Nat → Array Nat
 | [], acc => acc
 | o :: l, acc => befs l (acc.push (bef1 acc o.after.toList 0))
theorem bef1_spec {acc : Array Nat} {j : Nat} : ∀ (l : List Edge) (s : Nat), (bef1 acc l s).testBit j = true → s.testBit j = true ∨ ∃ e ∈ l, Region.binds .any e = true ∧ (e.on = j ∨ (acc.getD e.on 0).testBit j = true)
 | [], s, h => .inl h
 | e :: l, s, h => by
  rcases bef1_spec l _ h with h | ⟨e', he', h⟩
  ·dsimp only at h
   split at h
   ·rename_i hb
    rw [Nat.testBit_or, Nat.testBit_or] at h
    simp only [Bool.or_eq_true] at h
    rcases h with (h | h) | h
    ·exact .inl h
    ·exact .inr ⟨e, List.mem_cons_self .., hb, .inl (by rw [Nat.testBit_two_pow] at h; simpa using h)⟩
    ·exact .inr ⟨e, List.mem_cons_self .., hb, .inr h⟩
   ·exact .inl h
  ·exact .inr ⟨e', List.mem_cons_of_mem _ he', h⟩
theorem befs_spec {ops : Array Oper} : ∀ (l : List Oper) (acc : Array Nat), (∀ i, acc.size ≤ i → ops[i]? = l[i - acc.size]?) → (∀ i j, (acc.getD i 0).testBit j = true → Dep ops i j) → ∀ i j, ((befs l acc).getD i 0).testBit j = true → Dep ops i j
 | [], acc, _, h => h
 | o :: l, acc, hl, h => by
  refine befs_spec l _ (fun i hi => ?_) fun i j hb => ?_
  ·simp only [Array.size_push] at hi ⊢
   rw [hl i (by omega), show i - acc.size = (i - (acc.size + 1)) + 1 by omega]
   rfl
  ·by_cases hi : i < acc.size
   ·refine h i j ?_
    have : (acc.push (bef1 acc o.after.toList 0)).getD i 0 = acc.getD i 0 := by simp [Array.getElem?_push, Nat.ne_of_lt hi]
    rw [this] at hb; exact hb
   ·by_cases hi' : i = acc.size
    ·subst hi'
     have : (acc.push (bef1 acc o.after.toList 0)).getD acc.size 0 = bef1 acc o.after.toList 0 := by simp
     rw [this] at hb
     have ho : ops[acc.size]? = some o := by rw [hl _ (Nat.le_refl _)]; simp
     rcases bef1_spec _ _ hb with h0 | ⟨e, he, hbd, hj | hj⟩
     ·simp at h0
     ·subst hj; exact .one ho (by simpa using he) hbd
     ·exact .more ho (by simpa using he) hbd (h _ _ hj)
    ·have : (acc.push (bef1 acc o.after.toList 0)).getD i 0 = 0 := by simp [Array.getElem?_push, hi', Array.getElem?_eq_none (Nat.le_of_not_lt hi)]
     rw [this] at hb; simp at hb
theorem dep_out {ops : Array Oper} {rem : List Nat} (hc : ∀ k, k ∉ rem → ∀ o, ops[k]? = some o → ∀ e ∈ o.after, Region.binds .any e = true → e.on ∉ rem) {i j : Nat} (d : Dep ops i j) :
  (∀ o, ops[i]? = some o → ∀ e ∈ o.after, Region.binds .any e = true → e.on ∉ rem) → j ∉ rem := by
 induction d with
 | one ho he hb => exact fun h => h _ ho _ he hb
 | more ho he hb _ ih => exact fun h => ih fun o' ho' => hc _ (h _ ho _ he hb) o' ho'

def dstOk (n : Nat) : Option Nat → Bool
 | some d => decide (d < n)
 | none => true
def copG (P : Program) (ops : Array Oper) (n : Nat) (o : Oper) : Option AOper :=
 if dstOk n o.dst then
  match cop P o with
  | some ao => match o.guard with
   | none => some ⟨o.dst, none, ao⟩
   | some (j, b) => match (ops[j]?).bind (·.dst) with
    | some t => some ⟨o.dst, some (t, b), ao⟩
    | none => none
  | none => none
 else none
def cops (P : Program) (ops : Array Oper) (n : Nat) : List Oper → Option (List AOper)
 | [] => some []
 | o :: l => match copG P ops n o, cops P ops n l with | some a, some r => some (a :: r) | _, _ => none
theorem cops_get {P : Program} {ops : Array Oper} {n : Nat} : ∀ {l : List Oper} {r : List AOper}, cops P ops n l = some r → r.length = l.length ∧ ∀ (i : Nat) (a : AOper), r[i]? = some a → ∃ o, l[i]? = some o ∧ copG P ops n o = some a
 | [], r, h => by simp only [cops, Option.some.injEq] at h; subst h; simp
 | o :: l, r, h => by
  simp only [cops] at h
  split at h
  ·rename_i a r' h1 h2
   cases h
   obtain ⟨e, f⟩ := cops_get h2
   refine ⟨by simp [e], fun i a' hi => ?_⟩
   cases i with
   | zero => simp at hi; subst hi; exact ⟨o, rfl, h1⟩
   | succ i => simpa using f i a' (by simpa using hi)
  ·cases h
section
variable {P : Program} {c : Cx} {fr : Nat → Prop} {g : Gh} {st : AS} {a : Act} {w : World} {id : Nat} {K : AS → Prop} {Q : Exit → Act → World → Prop} {X : AV → Prop} {J : JW} {E : Env} {ops : Array Oper}
theorem want_sound (R : Rel c fr g st a w) {j : Nat} {b : Bool} {t : Nat} {r : Bool} (ht : (ops[j]?).bind (·.dst) = some t) (h : want st (some (t, b)) = some r) :
  (yielded ops a.tmps j == some b) = r := by
 have rt := R.tmp t
 unfold want at h
 simp only at h
 have hy : ∀ v, a.tmps.getD t undef = v → v ≠ undef → a.tmps[t]? = some v := fun v hv hne => by
  cases hq : a.tmps[t]? with
  | none => simp [hq] at hv; exact absurd hv.symm hne
  | some u => simp [hq] at hv; rw [hv]
 generalize hv : a.tmps.getD t undef = v at rt
 unfold yielded
 rw [ht]
 simp only [Option.bind_some]
 split at h
 ·rename_i q he
  rw [he] at rt
  have e : v = .bool q := sc_rep rt rfl
  subst e
  cases h
  rw [hy _ hv (by simp [undef])]
  simp
 ·rename_i x hx he
  rw [he] at rt
  have e : v = x := sc_rep rt rfl
  subst e
  cases h
  have hone : v.oneCell' = true := (Cel.conv rt (by simp) (by simp) (by simp)).one
  rw [hy _ hv (by rintro rfl; cases hone)]
  cases v <;> first|rfl|exact absurd rfl (hx _)
 ·rename_i vs he
  rw [he] at rt
  cases h
  cases hq : a.tmps[t]? with
  | none => rfl
  | some u =>
   have : v = u := by rw [← hv]; simp [hq]
   subst this
   cases rt with
   | com cm => cases cm with | cel cl => cases cl with | pur p => cases p
   | tup _ => rfl
 ·cases h
theorem op_one (hE : Ok P J E) (hhn : E.hn = c.gs.length ∧ J.lo ≤ c.w0.heap.size ∧ ∀ h ∈ c.gs, J.lo ≤ h) (hJ : ∀ w, Keep c.w0.heap.size c.gs c.w0 w → J w) (R : Rel c fr g st a w) (hf : fr id) {o : Oper} {i : Nat} {ao : AOper} (ho : ops[i]? = some o) (hc : copG P ops c.n o = some ao)
  (h : stpG P E id st K X ao) (hX : ∀ x p a w, X p → PanR c p x w → a.defers = [] → Keep c.w0.heap.size c.gs c.w0 w → Q (.panic [{ v := x, recovered := false }]) a w) : wpOp P ops Q i (Goes c fr id K) a w := by
 unfold copG at hc
 split at hc
 ·rename_i hd
  have hd' : ∀ i, o.dst = some i → i < c.n := fun i hi => by rw [hi] at hd; simpa [dstOk] using hd
  obtain ⟨b, hb, h⟩ := h
  split at hc
  ·rename_i op hop
   have fin : ∀ gd, ao = ⟨o.dst, gd, op⟩ → Region.wanted o (yielded ops a.tmps) = b → wpOp P ops Q i (Goes c fr id K) a w := fun gd he hw => by
    subst he
    unfold wpOp
    rw [ho]
    simp only [hw]
    cases b with
    | false => exact ⟨_, h, after_pure R hd' undef_rep⟩
    | true => exact .inl (op_sound hE hhn R (hJ w R.keep) hf hd' hop h hX)
   split at hc
   ·rename_i hg
    cases hc
    cases hb
    exact fin _ rfl (by simp [Region.wanted, hg])
   ·rename_i j wb hg
    split at hc
    ·rename_i t ht
     cases hc
     refine fin _ rfl ?_
     simp only [Region.wanted, hg]
     exact want_sound R ht hb
    ·cases hc
  ·cases hc
 ·cases hc
end
end Go.Proofs.YtnjmilelifmfpaaGreatDoor.Ev

namespace Go.Proofs.YtnjmilelifmfpaaGreatDoor.Ev
open Go Go.RowKit
set_option linter.unusedSimpArgs false
set_option linter.unusedVariables false

def runR (P : Program) (E : Env) (al : List (AOper × Bool)) (nx : Nat) (K : AS → Prop) (X : AV → Prop) : List Nat → AS → Prop
  | [], st => K st
  | i :: l, st => ∃ o z, al[i]? = some (o, z) ∧ stpG P E (nx + i) st (runR P E al nx K X l) (fun v => z = true ∧ X v) o
theorem runR_of {P : Program} {E : Env} {al : List (AOper × Bool)} {nx : Nat} {K : AS → Prop} {X : AV → Prop} : ∀ (l : List (AOper × Bool)) (k : Nat) (st : AS), (∀ i, al[k + i]? = l[i]?) → runOps P E K X (nx + k) l st → runR P E al nx K X (List.range' k l.length) st
  | [], _, _, _, h => h
  | (o, z) :: l, k, st, hl, h => by
    rw [List.length_cons, List.range'_succ]
    refine ⟨o, z, by rw [← Nat.add_zero k, hl 0]; rfl, ?_⟩
    rcases stpG_iff.1 h with ⟨s1, h1, h2⟩ | ⟨v, h1, h2⟩
    · exact stpG_iff.2 (.inl ⟨s1, h1, runR_of l (k + 1) s1 (fun i => by rw [show k + 1 + i = k + (i + 1) by omega, hl]; rfl) h2⟩)
    · exact stpG_iff.2 (.inr ⟨v, h1, h2⟩)
def ordOk (ops : Array Oper) (al : List (AOper × Bool)) : Bool :=
  let b := befs ops.toList #[]
  (List.range al.length).all fun i => (match ops[i]? with | some o => o.after.all fun e => !Region.binds .any e || decide (e.on < i) | none => true) &&
    (List.range i).all fun j => (b.getD i 0).testBit j || (match al[j]?, al[i]? with | some (oj, z), some (oi, _) => !z && apart oi oj | _, _ => false)
section
variable {P : Program} {c : Cx} {nx : Nat} {K : AS → Prop} {Q : Exit → Act → World → Prop} {X : AV → Prop} {J : JW} {E : Env} {ops : Array Oper} {al : List (AOper × Bool)}
def frR (nx n : Nat) (rem : List Nat) (id : Nat) : Prop := nx + n ≤ id ∨ ∃ i ∈ rem, id = nx + i
theorem Rel.fresh {fr : Nat → Prop} {g : Gh} {st : AS} {a : Act} {w : World} (R : Rel c fr g st a w) : Fresh fr st := by
  have noref : ∀ l : List Value, (l.map AV.s).flatMap refC = [] := fun l => by induction l <;> simp_all [refC]
  have ev : ∀ x, (∃ b o, st.ev x = .ptr b o) ∨ (∃ k, k ∈ refA (st.ev x)) → ∃ v, Rep g (st.ev x) v := fun x h => by
    cases x with
    | tmp t => exact ⟨_, R.tmp t⟩
    | const v =>
      have hn : refA (ofV v) = [] := by cases v <;> first|rfl|exact noref _
      rcases h with ⟨b, o, h⟩ | ⟨k, h⟩
      · cases v <;> cases h
      · rw [show st.ev (.const v) = ofV v from rfl, hn] at h; cases h
    | global b => simp [AS.ev, refA, refs, refC] at h
    | func f => simp [AS.ev, refA, refs, refC] at h
  have cel : ∀ {x : AV} {v : Value} {k : Nat}, Cel g x v → k ∈ refA x → ¬ fr k := fun {x v k} h hk hf => by
    cases h with
    | pur p => cases p <;> simp [refA, refs, refC] at hk
    | ref e _ => simp [refA, refs, refC] at hk; subst hk; rw [(R.free _ hf).2] at e; cases e
    | ptr e => simp [refA, refs, refC] at hk
    | elt e => simp [refA, refs, refC] at hk
    | rptr e => simp [refA] at hk; subst hk; rw [(R.free _ hf).2] at e; cases e
  have cells : ∀ {l : List AV} {vs : List Value}, All2 (Cel g) l vs → ∀ z ∈ l, ∃ v, Cel g z v := fun h => by
    induction h with
    | nil => simp
    | cons h _ ih => exact fun z hz => (List.mem_cons.1 hz).elim (fun e => ⟨_, e ▸ h⟩) (ih z)
  refine ⟨fun x b o he hf => ?_, fun x k hk => ?_⟩
  · obtain ⟨v, r⟩ := ev x (.inl ⟨b, o, he⟩)
    rw [he] at r
    cases Cel.conv r (by simp) (by simp) (by simp) with
    | pur p => cases p
    | ptr h => rw [(R.free b hf).1] at h; cases h
  · obtain ⟨v, r⟩ := ev x (.inr ⟨k, hk⟩)
    generalize st.ev x = y at r hk
    cases r with
    | com cm => cases cm with
      | cel cl => exact cel cl hk
      | agg cs =>
        simp only [refA, refs] at hk
        obtain ⟨z, hz, hk⟩ := List.mem_flatMap.1 hk
        obtain ⟨u, cl⟩ := cells cs z hz
        exact cel cl (refA_of hk)
      | fn xs ys =>
        simp only [refA, refs] at hk
        rcases List.mem_append.1 hk with hk | hk
        · obtain ⟨z, hz, hk⟩ := List.mem_flatMap.1 hk
          obtain ⟨u, cl⟩ := cells xs z hz
          exact cel cl (refA_of hk)
        · obtain ⟨z, hz, hk⟩ := List.mem_flatMap.1 hk
          obtain ⟨u, cl⟩ := cells ys z hz
          exact cel cl (refA_of hk)
    | tup cs => simp [refA, refs, refC] at hk
    | any => simp [refA, refs, refC] at hk
theorem wp_ex {o : Oper} {a : Act} {w : World} {K : Act → World → Prop} (h : o.wp P a w K (fun _ _ _ => False)) : ∃ a' w', K a' w' := by
  unfold Oper.wp at h
  generalize (execOp a.eval o).run P w = r at h
  cases r with
  | ok n w' =>
    cases n <;> simp only [Oper.upon] at h <;> first
      | exact ⟨_, _, h⟩
      | exact h.elim
      | (obtain ⟨e, w', fr, hr, _⟩ := h []
         cases e with
         | returned v => exact ⟨_, _, hr⟩
         | panicked ch => exact hr.elim
         | outgrown => obtain ⟨_, _, hr⟩ := hr; exact hr.elim)
      | (obtain ⟨v, w', hr, _⟩ := h default []; exact ⟨_, _, hr⟩)
  | halt x w' => cases x <;> simp only [Oper.upon] at h
theorem wpOp_ex {i : Nat} {a : Act} {w : World} {K : Act → World → Prop} (h : wpOp P ops (fun _ _ _ => False) i K a w) : ∃ a' w', K a' w' := by
  unfold wpOp at h
  split at h
  · exact ⟨_, _, h⟩
  · split at h
    · rcases h with h | ⟨_, _, _, h⟩
      · exact wp_ex h
      · exact h.elim
    · exact ⟨_, _, h⟩
theorem handsN_congr {bx bx' : Nat → Option (List AV)} : ∀ {n k : Nat}, (∀ q, k ≤ q → q < k + n → bx q = bx' q) → handsN bx n k = handsN bx' n k
  | 0, _, _ => rfl
  | n + 1, k, h => by simp only [handsN]; rw [h k (Nat.le_refl _) (by omega), handsN_congr fun q h1 h2 => h q (by omega) (by omega)]
theorem panV_congr {bx bx' : Nat → Option (List AV)} {hn : Nat} {x : AV} (h : ∀ q, q < hn → bx q = bx' q) : panV hn bx x = panV hn bx' x := by
  cases hn with
  | zero => rfl
  | succ n => simp only [panV]; rw [handsN_congr fun q _ h2 => h q (by omega)]
theorem front (hE : Ok P J E) (hhn : E.hn = c.gs.length ∧ J.lo ≤ c.w0.heap.size ∧ ∀ h ∈ c.gs, J.lo ≤ h) (hJ : ∀ w, Keep c.w0.heap.size c.gs c.w0 w → J w) (hops : ∀ (i : Nat) (x : AOper × Bool), al[i]? = some x → ∃ o, ops[i]? = some o ∧ copG P ops c.n o = some x.1) {i : Nat} {oi : AOper} {zi : Bool} (hi : al[i]? = some (oi, zi)) {l2 : List Nat} {n : Nat} (hn : al.length ≤ n) :
    ∀ (l1 : List Nat) {st : AS} {g : Gh} {a : Act} {w : World}, (l1 ++ i :: l2).Nodup → (∀ j ∈ l1, ∃ oj, al[j]? = some (oj, false) ∧ apart oi oj = true) → Rel c (frR nx n (l1 ++ i :: l2)) g st a w →
      runR P E al nx K X (l1 ++ i :: l2) st → stpG P E (nx + i) st (runR P E al nx K X (l1 ++ l2)) X oi
  | [], st, g, a, w, _, _, R, h => by
    obtain ⟨o, z, ho, h⟩ := h
    rw [hi] at ho; cases ho
    rcases stpG_iff.1 h with ⟨s1, h1, h2⟩ | ⟨v, h1, h2⟩
    · exact stpG_iff.2 (.inl ⟨s1, h1, h2⟩)
    · exact stpG_iff.2 (.inr ⟨v, h1, h2.2⟩)
  | j :: l1, st, g, a, w, hnd, hj, R, h => by
    obtain ⟨oj, hoj, hap⟩ := hj j (List.mem_cons_self ..)
    obtain ⟨o, z, ho, h⟩ := h
    rw [hoj] at ho; cases ho
    have hnd' := List.nodup_cons.1 hnd
    have fj : frR nx n (j :: l1 ++ i :: l2) (nx + j) := .inr ⟨j, by simp, rfl⟩
    have fi : frR nx n (j :: l1 ++ i :: l2) (nx + i) := .inr ⟨i, by simp, rfl⟩
    have hne : i ≠ j := fun e => hnd'.1 (by rw [e]; simp)
    rcases stpG_iff.1 h with ⟨s1, h1, h2⟩ | ⟨v, h1, h2⟩
    · obtain ⟨oc, hoc, hcc⟩ := hops j _ hoj
      have hone : wpOp P ops (fun _ _ _ => False) j (Goes c (frR nx n (j :: l1 ++ i :: l2)) (nx + j) (fun s => s = s1)) a w :=
        op_one (X := fun _ => False) hE hhn hJ R fj hoc hcc (stpG_iff.2 (.inl ⟨s1, h1, rfl⟩)) (fun _ _ _ _ h => h.elim)
      obtain ⟨a', w', _, rfl, g', R'⟩ := wpOp_ex hone
      have R1 := R'.weak (fr' := frR nx n (l1 ++ i :: l2)) fun id hid => by
        rcases hid with hid | ⟨k, hk, rfl⟩
        · refine ⟨.inl hid, ?_⟩
          have : j < al.length := (List.getElem?_eq_some_iff.1 hoj).1
          omega
        · exact ⟨.inr ⟨k, List.mem_cons_of_mem _ hk, rfl⟩, fun e => hnd'.1 (by rw [show j = k by omega]; exact hk)⟩
      have := front hE hhn hJ hops hi hn l1 hnd'.2 (fun k hk => hj k (List.mem_cons_of_mem _ hk)) R1 h2
      rcases stpG_iff.1 this with ⟨s2, k1, k2⟩ | ⟨v, k1, k2⟩
      · obtain ⟨s1', c1, c2⟩ := comm hap R.fresh fi fj (by omega) h1 k1
        exact stpG_iff.2 (.inl ⟨s1', c1, oj, false, hoj, stpG_iff.2 (.inl ⟨s2, c2, k2⟩)⟩)
      · refine stpG_iff.2 (.inr ⟨v, ?_, k2⟩)
        obtain ⟨a1, a2, a3, a4⟩ := apart_spec hap
        obtain ⟨ri1, ri2⟩ := reads_op a3
        obtain ⟨bj, rj, wj, cj, rfl⟩ := h1
        obtain ⟨p1, p2⟩ := k1
        rw [aft_want ri2] at p1
        refine ⟨p1, ?_⟩
        have evi : ∀ x ∈ oi.op.opds, (st.aft oj.d rj).ev x = st.ev x := aft_ev ri1
        have key : ∀ (N : List Nat), (∀ k ∈ N, (st.aft oj.d rj).gr k ≠ none ∧ ∃ x ∈ oi.op.opds, k ∈ refA ((st.aft oj.d rj).ev x)) → (N ≠ [] → oi.op.cls = 5) → ∀ k ∈ N, SameX (st.gr k) ((st.aft oj.d rj).gr k) := fun N hN h5 k hk => by
          obtain ⟨h0, x, hx, hm⟩ := hN k hk
          rw [evi x hx] at hm
          have nf := R.fresh.2 x k hm
          have hkj : k ≠ nx + j := fun e => nf (by rw [e]; exact fj)
          rw [aft_gr] at h0 ⊢
          cases kind cj with
          | D hc _ => rw [h5 (fun e => by rw [e] at hk; cases hk), hc] at a4; cases a4
          | A ej Nj Bj ej' nj1 bj1 kj1 kj2 mj sj1 sj2 sj3 sj4 =>
            subst ej'
            have h0' : ej.grs (nx + j) st.gr k ≠ none := h0
            show SameX _ (ej.grs (nx + j) st.gr k)
            rw [Eff.grs_ne hkj] at h0' ⊢
            have hnk : ej.k ≠ some k := fun e => by
              rw [e, killT_hit] at h0'
              split at h0' <;> exact h0' rfl
            rw [killT_ne hnk]
            split
            · exact (same_shut _).symm
            · exact same_refl _
        have hb5 : oi.op.cls = 5 → ∀ x, panV E.hn (st.aft oj.d rj).bx x = panV E.hn st.bx x := fun h5 x => by
          refine panV_congr fun q hq => ?_
          rw [aft_bx]
          cases kind cj with
          | D hc _ => rw [h5, hc] at a4; cases a4
          | A ej Nj Bj ej' nj1 bj1 kj1 kj2 mj sj1 sj2 sj3 sj4 =>
            subst ej'
            refine Eff.bxs_ne fun e => ?_
            obtain ⟨h, hh⟩ : ∃ h, c.gs[q]? = some h := ⟨c.gs[q]'(by have := hhn.1; omega), by simp⟩
            have := R.hand q h hh
            rw [e, (R.free _ fj).1] at this; cases this
        have hb4 : oi.op.cls = 4 → (st.aft oj.d rj).bx = st.bx ∧ (st.aft oj.d rj).gr = st.gr := fun h4 => by
          rw [aft_bx, aft_gr]
          have hj0 : oj.op.cls = 0 := by
            cases h0 : oj.op.cls with
            | zero => rfl
            | succ n => simp [clsOk, h4, h0] at a4
          cases kind cj with
          | D hc _ => rw [hj0] at hc; cases hc
          | A ej Nj Bj ej' nj1 bj1 kj1 kj2 mj sj1 sj2 sj3 sj4 =>
            obtain ⟨e0, _, _⟩ := sj3 hj0
            rw [ej', e0, pure_res]
            exact ⟨rfl, rfl⟩
        revert p2 evi key hb5 hb4
        cases oi.op <;> intro p2 evi key hb5 hb4 <;> first|exact p2.elim | skip
        · rename_i f xs
          obtain ⟨kk, v', p2, h0, hpv⟩ : ∃ kk v', E f (xs.map fun x => stripB kk (st.aft oj.d rj).gr ((st.aft oj.d rj).ev x)) (.pan v') ∧ here (st.aft oj.d rj).gr ((xs.map (st.aft oj.d rj).ev).flatMap refs) = true ∧ panV E.hn (st.aft oj.d rj).bx v' = some v := p2
          have hN := key ((xs.map (st.aft oj.d rj).ev).flatMap refs) (fun k hk => ⟨here_mem h0 k hk, by
            obtain ⟨y, hy, hk⟩ := List.mem_flatMap.1 hk
            obtain ⟨x, hx, rfl⟩ := List.mem_map.1 hy
            exact ⟨x, hx, refA_refs hk⟩⟩) (fun _ => rfl)
          have hm : xs.map (st.aft oj.d rj).ev = xs.map st.ev := List.map_congr_left fun x hx => evi x hx
          refine ⟨kk, v', ?_, by rw [← hm, here_same hN]; exact h0, by rw [← hb5 rfl]; exact hpv⟩
          rw [List.map_congr_left (g := fun x => stripB kk (st.aft oj.d rj).gr ((st.aft oj.d rj).ev x)) fun x hx => ?_]
          · exact p2
          · rw [← evi x hx]
            exact stripB_same fun k hk => hN k (List.mem_flatMap.2 ⟨_, List.mem_map_of_mem hx, hk⟩)
        · obtain ⟨t, u, q1, q2⟩ := p2
          exact ⟨t, u, by rw [← evi _ (by simp [AOp.opds])]; exact q1, by rw [← hb5 rfl]; exact q2⟩
        · rename_i x xs
          obtain ⟨b1, b2⟩ := hb4 rfl
          have e1 : (st.aft oj.d rj).ev x = st.ev x := evi x (by simp [AOp.opds])
          have e2 : xs.map (st.aft oj.d rj).ev = xs.map st.ev := List.map_congr_left fun y hy => evi y (by simp [AOp.opds, hy])
          simp only [Pan1, b1, b2, e1, e2] at p2 ⊢
          exact p2
    · exact absurd h2.1 (by simp)
theorem any_sound (hE : Ok P J E) (hhn : E.hn = c.gs.length ∧ J.lo ≤ c.w0.heap.size ∧ ∀ h ∈ c.gs, J.lo ≤ h) (hJ : ∀ w, Keep c.w0.heap.size c.gs c.w0 w → J w) (hal : al.length = ops.size) (hops : ∀ (i : Nat) (x : AOper × Bool), al[i]? = some x → ∃ o, ops[i]? = some o ∧ copG P ops c.n o = some x.1)
    (hord : ordOk ops al = true) (hQ : ∀ a w st' g', K st' → Rel c (fun i => nx + ops.size ≤ i) g' st' a w → Q .normal a w)
    (hX : ∀ x p a w, X p → PanR c p x w → a.defers = [] → Keep c.w0.heap.size c.gs c.w0 w → Q (.panic [{ v := x, recovered := false }]) a w) :
    ∀ (n : Nat) (rem : List Nat) (listed : Array Bool) {st : AS} {g : Gh} {a : Act} {w : World}, rem.length = n → rem.Pairwise (· < ·) → listed.size = ops.size → (∀ i, i ∈ rem ↔ i < ops.size ∧ listed.getD i true = false) →
      (∀ k, k ∉ rem → ∀ o, ops[k]? = some o → ∀ e ∈ o.after, Region.binds .any e = true → e.on ∉ rem) → Rel c (frR nx ops.size rem) g st a w → runR P E al nx K X rem st → ∀ fuel, n ≤ fuel → wpAny P .any ops Q fuel listed a w := by
  have ho := List.all_eq_true.1 hord
  intro n
  induction n with
  | zero =>
    intro rem listed st g a w hlen _ hsz hmem hcl R h fuel _
    have : rem = [] := List.eq_nil_of_length_eq_zero hlen
    subst this
    have hr : Region.ready .any ops listed = [] := by
      cases e : Region.ready .any ops listed with
      | nil => rfl
      | cons j l =>
        have hj : j ∈ Region.ready .any ops listed := by rw [e]; exact List.mem_cons_self ..
        obtain ⟨h0, o, hoj, _⟩ := mem_ready.1 hj
        have := (hmem j).2 ⟨(Array.getElem?_eq_some_iff.1 hoj).1, h0⟩
        cases this
    exact wpAny_done hr (hQ a w st g h (R.weak fun i hi => .inl hi)) fuel
  | succ n ih =>
    intro rem listed st g a w hlen hpw hsz hmem hcl R h fuel hfuel
    obtain ⟨fuel, rfl⟩ : ∃ f, fuel = f + 1 := ⟨fuel - 1, by omega⟩
    have hlisted : ∀ k, listed.getD k false = true → k ∉ rem := fun k hk hm => by
      have h1 := ((hmem k).1 hm).2
      have h2 := ((hmem k).1 hm).1
      have hlt : k < listed.size := by omega
      simp [hlt] at hk h1
      rw [hk] at h1; cases h1
    have hout : ∀ k, k ∉ rem → k < ops.size → listed.getD k false = true := fun k hk hlt => by
      cases e : listed.getD k true with
      | false => exact absurd ((hmem k).2 ⟨hlt, e⟩) hk
      | true =>
        have hlt' : k < listed.size := by omega
        simp [hlt'] at e ⊢; exact e
    refine ⟨fun hr => ?_, fun i hi => ?_⟩
    · exfalso
      cases rem with
      | nil => simp at hlen
      | cons m l =>
        have hm := (hmem m).1 (List.mem_cons_self ..)
        obtain ⟨o, hom⟩ : ∃ o, ops[m]? = some o := ⟨ops[m]'hm.1, by simp [hm.1]⟩
        have hmr : m ∈ Region.ready .any ops listed := by
          refine mem_ready.2 ⟨hm.2, o, hom, fun e he hb => ?_⟩
          have h1 := ho m (by rw [List.mem_range, hal]; exact hm.1)
          simp only [Bool.and_eq_true, hom] at h1
          have h2 := Array.all_eq_true_iff_forall_mem.1 h1.1 e he
          simp only [hb, Bool.not_true, Bool.false_or, decide_eq_true_eq] at h2
          refine hout _ (fun hin => ?_) (by omega)
          rcases List.mem_cons.1 hin with h | h
          · omega
          · have := List.rel_of_pairwise_cons hpw h; omega
        rw [hr] at hmr; cases hmr
    · obtain ⟨h0, o, hoi, hall⟩ := mem_ready.1 hi
      have hlt : i < ops.size := (Array.getElem?_eq_some_iff.1 hoi).1
      have him : i ∈ rem := (hmem i).2 ⟨hlt, h0⟩
      obtain ⟨l1, l2, rfl⟩ := List.append_of_mem him
      obtain ⟨⟨ai, zi⟩, hai⟩ : ∃ x, al[i]? = some x := ⟨al[i]'(by omega), by simp⟩
      obtain ⟨o', ho', hcp⟩ := hops i _ hai
      rw [hoi] at ho'; cases ho'
      have hready : ∀ o', ops[i]? = some o' → ∀ e ∈ o'.after, Region.binds .any e = true → e.on ∉ l1 ++ i :: l2 := fun o' ho' e he hb => by
        rw [hoi] at ho'; cases ho'
        exact hlisted _ (hall e he hb)
      have hnd : (l1 ++ i :: l2).Nodup := hpw.imp Nat.ne_of_lt
      have hfr := front hE hhn hJ hops hai (Nat.le_of_eq hal) (n := ops.size) l1 hnd (fun j hj => by
        have hji : j < i := (List.pairwise_append.1 hpw).2.2 j hj i (List.mem_cons_self ..)
        have h1 := ho i (by rw [List.mem_range, hal]; exact hlt)
        simp only [Bool.and_eq_true] at h1
        have h2 := List.all_eq_true.1 h1.2 j (List.mem_range.2 hji)
        simp only [Bool.or_eq_true] at h2
        rcases h2 with h2 | h2
        · have hd := befs_spec (ops := ops) ops.toList #[] (fun i _ => by simp) (fun i j h => by simp at h) i j h2
          exact absurd (List.mem_append_left _ hj) (dep_out hcl hd hready)
        · rw [hai] at h2
          split at h2
          · rename_i oj z oi' z' e1 e2
            cases e2
            simp only [Bool.and_eq_true, Bool.not_eq_true'] at h2
            obtain ⟨hz, hap⟩ := h2
            subst hz
            exact ⟨oj, e1, hap⟩
          · cases h2) R h
      refine wpOp_mono (fun a' w' hg => ?_) (op_one (Q := Q) hE hhn hJ R (.inr ⟨i, him, rfl⟩) hoi hcp hfr hX)
      obtain ⟨s', hk, g', R'⟩ := hg
      have hni : i ∉ l1 ++ l2 := fun hm => by
        have := List.nodup_append.1 hnd
        rcases List.mem_append.1 hm with hm | hm
        · exact (this.2.2 i hm i (List.mem_cons_self ..)) rfl
        · exact (List.nodup_cons.1 this.2.1).1 hm
      refine ih (l1 ++ l2) (listed.setIfInBounds i true) (by simp at hlen ⊢; omega) (hpw.sublist (List.Sublist.append (List.Sublist.refl _) (List.sublist_cons_self ..))) (by simpa using hsz) (fun k => ?_) (fun k hk o' ho' e he hb hin => ?_)
        (R'.weak fun id hid => ?_) hk fuel (by omega)
      · by_cases hki : k = i
        · subst hki
          constructor
          · exact fun h => absurd h hni
          · rintro ⟨_, h⟩
            have : k < listed.size := by omega
            simp [this] at h
        · rw [getD_set_ne true (Ne.symm hki), ← hmem k]
          simp [hki]
      · have hin' : e.on ∈ l1 ++ i :: l2 := by
          rcases List.mem_append.1 hin with h | h
          · exact List.mem_append_left _ h
          · exact List.mem_append_right _ (List.mem_cons_of_mem _ h)
        by_cases hki : k = i
        · subst hki; exact hready o' ho' e he hb hin'
        · exact hcl k (fun hm => hk (by
            rcases List.mem_append.1 hm with h | h
            · exact List.mem_append_left _ h
            · rcases List.mem_cons.1 h with h | h
              · exact absurd h hki
              · exact List.mem_append_right _ h)) o' ho' e he hb hin'
      · rcases hid with hid | ⟨k, hk', rfl⟩
        · exact ⟨.inl hid, by omega⟩
        · refine ⟨.inr ⟨k, ?_, rfl⟩, fun e => hni (by rw [show i = k by omega]; exact hk')⟩
          rcases List.mem_append.1 hk' with h | h
          · exact List.mem_append_left _ h
          · exact List.mem_append_right _ (List.mem_cons_of_mem _ h)
end
end Go.Proofs.YtnjmilelifmfpaaGreatDoor.Ev

namespace Go.Proofs.YtnjmilelifmfpaaGreatDoor.Ev
open Go Go.RowKit
set_option linter.unusedSimpArgs false
set_option linter.unusedVariables false

def regAl (ops : Array Oper) (draw : Bool) (l : List AOper) : List (AOper × Bool) :=
 let b := befs ops.toList #[]
 l.zipIdx.map fun x => (x.1, if draw then (List.range ops.size).all fun k => decide (k ≤ x.2) || (b.getD k 0).testBit x.2 else true)
def comp (P : Program) (n : Nat) : Code → Option ACode
 | .skip | .label _ => some .skip
 | .region _ ops draw => match cops P ops n ops.toList with
  | some l => let al := regAl ops draw l; if !draw || (ordOk ops al && P.follows .mixedOrders) then some (.reg al) else some .bad
  | none => some .bad
 | .seq a b => match comp P n a, comp P n b with | some x, some y => some (.seq x y) | _, _ => none
 | .cond c a b => match comp P n a, comp P n b with | some x, some y => if oOk c then some (.cond c x y) else none | _, _ => none
 | .block id a => (comp P n a).map (.block id)
 | .loop a => (comp P n a).map .loop
 | .exit id => some (.exit id)
 | .ret => some .ret
 | _ => some .bad
def Le (hn : Nat) (s' s : AS) : Prop := ∀ c g a w, c.gs.length = hn → Rel c (fun i => s.nx ≤ i) g s a w → ∃ g', Rel c (fun i => s'.nx ≤ i) g' s' a w
def AEx.seq (K : AEx → AS → Prop) (N : AS → Prop) : AEx → AS → Prop
 | .normal, s => N s
 | e, s => K e s
def AEx.blk (id : Nat) (K : AEx → AS → Prop) : AEx → AS → Prop
 | .exit i, s => if i = id then K .normal s else K (.exit i) s
 | e, s => K e s
def awp (P : Program) (E : Env) : ACode → (AEx → AS → Prop) → AS → Prop
 | .skip, K, st => K .normal st
 | .reg al, K, st => runOps P E (fun s => K .normal { s with nx := st.nx + al.length }) (fun v => K (.pan v) st) st.nx al st
 | .seq a b, K, st => awp P E a (AEx.seq K (awp P E b K)) st
 | .cond c x y, K, st => ∃ t, st.ev c = .s (.bool t) ∧ (t = true → awp P E x K st) ∧ (t = false → awp P E y K st)
 | .block id c, K, st => awp P E c (AEx.blk id K) st
 | .loop c, K, st => ∃ (ι : Type) (S : ι → AS) (μ : ι → Nat) (i0 : ι), Le E.hn (S i0) st ∧ ∀ i, awp P E c (AEx.seq K fun s' => ∃ j, Le E.hn (S j) s' ∧ μ j < μ i) (S i)
 | .exit id, K, st => K (.exit id) st
 | .ret, K, st => K .ret st
 | .bad, _, _ => False
 | .fgt, K, st => ∃ s', Le E.hn s' st ∧ K .normal s'

def Lift (c : Cx) (K : AEx → AS → Prop) : Exit → Act → World → Prop
 | .normal, a, w => ∃ g st, K .normal st ∧ Rel c (fun i => st.nx ≤ i) g st a w
 | .exit id, a, w => ∃ g st, K (.exit id) st ∧ Rel c (fun i => st.nx ≤ i) g st a w
 | .ret, a, w => ∃ g st, K .ret st ∧ Rel c (fun i => st.nx ≤ i) g st a w
 | .panic ch, a, w => ∃ x p st, ch = [{ v := x, recovered := false }] ∧ K (.pan p) st ∧ PanR c p x w ∧ a.defers = [] ∧ Keep c.w0.heap.size c.gs c.w0 w
 | _, _, _ => False
theorem wp_loop' {P : Program} {c : Code} {Q : Exit → Act → World → Prop} {a : Act} {w : World} {α : Type} (I : α → Act → World → Prop) (μ : α → Nat) (x0 : α) (h₀ : I x0 a w)
  (round : ∀ x a w, I x a w → c.wp P (Exit.then (fun a' w' => ∃ y, I y a' w' ∧ μ y < μ x) Q) a w) : (Code.loop c).wp P Q a w := by
 intro b k cs
 have key : ∀ n x a w, μ x = n → I x a w → ∃ e a' w', Q e a' w' ∧ Arrives P (lone (b.at a (.code c :: .inLoop c :: k)) cs w) b k cs e a' w' := by
  intro n
  induction n using Nat.strongRecOn with
  | _ n ih =>
   intro x a w hn hI
   obtain ⟨e, a₁, w₁, hq, harr⟩ := round x a w hI b (.inLoop c :: k) cs
   cases e with
   | normal =>
    obtain ⟨y, hI₁, hlt⟩ := hq
    obtain ⟨e₂, a₂, w₂, hq₂, harr₂⟩ := ih (μ y) (hn ▸ hlt) y a₁ w₁ rfl hI₁
    exact ⟨e₂, a₂, w₂, hq₂, .of_steps (Steps.trans harr (.one step_inLoop)) harr₂⟩
   | exit id => exact ⟨_, a₁, w₁, hq, .pass (x := .inLoop c) rfl (fun _ _ => .inl (by simp)) harr⟩
   | goto l => exact ⟨_, a₁, w₁, hq, .pass (x := .inLoop c) rfl (fun _ _ => .inl (by simp)) harr⟩
   | ret => exact ⟨_, a₁, w₁, hq, .pass (x := .inLoop c) rfl (fun _ _ => .inl (by simp)) harr⟩
   | panic ch => exact ⟨_, a₁, w₁, hq, .pass (x := .inLoop c) rfl (fun _ _ => .inl (by simp)) harr⟩
   | outgrown => exact ⟨_, a₁, w₁, hq, .pass (x := .inLoop c) rfl (fun _ _ => .inl (by simp)) harr⟩
 obtain ⟨e, a', w', hq, harr⟩ := key _ x0 a w rfl h₀
 exact ⟨e, a', w', hq, .of_steps (.one step_loop) harr⟩
section
variable {P : Program} {E : Env} {J : JW} {c : Cx}
theorem seq_sound (hE : Ok P J E) (hhn : E.hn = c.gs.length ∧ J.lo ≤ c.w0.heap.size ∧ ∀ h ∈ c.gs, J.lo ≤ h) (hJ : ∀ w, Keep c.w0.heap.size c.gs c.w0 w → J w) {ops : Array Oper} {al : List (AOper × Bool)} {nx : Nat} {K : AS → Prop} {X : AV → Prop} {Q : Exit → Act → World → Prop} (hal : al.length = ops.size)
  (hops : ∀ (i : Nat) (x : AOper × Bool), al[i]? = some x → ∃ o, ops[i]? = some o ∧ copG P ops c.n o = some x.1) (hQ : ∀ a w st' g', K st' → Rel c (fun i => nx + ops.size ≤ i) g' st' a w → Q .normal a w)
  (hX : ∀ x p a w, X p → PanR c p x w → a.defers = [] → Keep c.w0.heap.size c.gs c.w0 w → Q (.panic [{ v := x, recovered := false }]) a w) :
  ∀ (l : List (AOper × Bool)) (k : Nat) {st : AS} {g : Gh} {a : Act} {w : World}, (∀ i, al[k + i]? = l[i]?) → k + l.length = ops.size → Rel c (fun i => nx + k ≤ i) g st a w → runOps P E K X (nx + k) l st →
   wpOps P ops Q (List.range' k l.length) a w
 | [], k, st, g, a, w, _, hk, R, h => by
  have : k = ops.size := by simpa using hk
  subst this
  exact hQ a w st g h R
 | (o, z) :: l, k, st, g, a, w, hl, hk, R, h => by
  rw [List.length_cons, List.range'_succ, wpOps_cons]
  have hk0 : al[k]? = some (o, z) := by rw [← Nat.add_zero k, hl 0]; rfl
  obtain ⟨oc, hoc, hcp⟩ := hops k _ hk0
  refine wpOp_mono (fun a' w' hg => ?_) (op_one (Q := Q) (X := X) hE hhn hJ R (Nat.le_refl _) hoc hcp (K := runOps P E K X (nx + k + 1) l) ?_ hX)
  ·obtain ⟨s', hs, g', R'⟩ := hg
   exact seq_sound hE hhn hJ hal hops hQ hX l (k + 1) (fun i => by rw [show k + 1 + i = k + (i + 1) by omega, hl]; rfl) (by simp at hk; omega) (R'.weak fun i hi => ⟨by omega, by omega⟩) (by rw [← Nat.add_assoc]; exact hs)
  ·rcases stpG_iff.1 h with ⟨s1, h1, h2⟩ | ⟨v, h1, h2⟩
   ·exact stpG_iff.2 (.inl ⟨s1, h1, h2⟩)
   ·exact stpG_iff.2 (.inr ⟨v, h1, h2.2⟩)
theorem regAl_get {ops : Array Oper} {draw : Bool} {l : List AOper} {i : Nat} {x : AOper × Bool} (h : (regAl ops draw l)[i]? = some x) : l[i]? = some x.1 := by
 unfold regAl at h
 simp only [List.getElem?_map, List.getElem?_zipIdx, Option.map_eq_some_iff] at h
 obtain ⟨y, ⟨a, ha, rfl⟩, rfl⟩ := h
 simpa using ha
theorem code_sound (hE : Ok P J E) (hhn : E.hn = c.gs.length ∧ J.lo ≤ c.w0.heap.size ∧ ∀ h ∈ c.gs, J.lo ≤ h) (hJ : ∀ w, Keep c.w0.heap.size c.gs c.w0 w → J w) : ∀ (code : Code) {ac : ACode} {K : AEx → AS → Prop} {st : AS} {g : Gh} {a : Act} {w : World}, comp P c.n code = some ac → awp P E ac K st → Rel c (fun i => st.nx ≤ i) g st a w →
  code.wp P (Lift c K) a w
 | .skip, ac, K, st, g, a, w, hc, h, R => by
  simp only [comp, Option.some.injEq] at hc; subst hc
  exact wp_skip ⟨g, st, h, R⟩
 | .label _, ac, K, st, g, a, w, hc, h, R => by
  simp only [comp, Option.some.injEq] at hc; subst hc
  exact wp_label ⟨g, st, h, R⟩
 | .exit id, ac, K, st, g, a, w, hc, h, R => by
  simp only [comp, Option.some.injEq] at hc; subst hc
  exact wp_exit ⟨g, st, h, R⟩
 | .ret, ac, K, st, g, a, w, hc, h, R => by
  simp only [comp, Option.some.injEq] at hc; subst hc
  exact wp_ret ⟨g, st, h, R⟩
 | .seq x y, ac, K, st, g, a, w, hc, h, R => by
  simp only [comp] at hc
  split at hc
  ·rename_i x' y' hx hy
   cases hc
   refine wp_seq (wp_mono (code_sound hE hhn hJ x hx h R) fun e a' w' q => ?_)
   cases e with
   | normal =>
    obtain ⟨g', s', k, R'⟩ := q
    exact code_sound hE hhn hJ y hy k R'
   | exit id => exact q
   | ret => exact q
   | panic ch => exact q
   | goto l => exact q.elim
   | outgrown => exact q.elim
  ·cases hc
 | .cond o x y, ac, K, st, g, a, w, hc, h, R => by
  simp only [comp] at hc
  split at hc
  ·rename_i x' y' hx hy
   split at hc
   ·rename_i ho
    cases hc
    obtain ⟨t, ht, h1, h2⟩ := h
    have e : a.eval o = .bool t := sc_rep (R.ev o ho) (by rw [ht]; rfl)
    exact wp_cond_split e (fun q => code_sound hE hhn hJ x hx (h1 q) R) (fun q => code_sound hE hhn hJ y hy (h2 q) R)
   ·cases hc
  ·cases hc
 | .block id x, ac, K, st, g, a, w, hc, h, R => by
  simp only [comp, Option.map_eq_some_iff] at hc
  obtain ⟨x', hx, rfl⟩ := hc
  refine wp_block (wp_mono (code_sound hE hhn hJ x hx h R) fun e a' w' q => ?_)
  cases e with
  | exit id' =>
   obtain ⟨g', s', k, R'⟩ := q
   simp only [AEx.blk] at k
   simp only [Exit.inBlock]
   split at k
   ·rename_i he; rw [if_pos he]; exact ⟨g', s', k, R'⟩
   ·rename_i he; rw [if_neg he]; exact ⟨g', s', k, R'⟩
  | normal => exact q
  | ret => exact q
  | panic ch => exact q
  | goto l => exact q.elim
  | outgrown => exact q.elim
 | .loop x, ac, K, st, g, a, w, hc, h, R => by
  simp only [comp, Option.map_eq_some_iff] at hc
  obtain ⟨x', hx, rfl⟩ := hc
  obtain ⟨ι, S, μ, i0, hle, hround⟩ := h
  refine wp_loop' (α := ι) (fun i a w => ∃ g, Rel c (fun k => (S i).nx ≤ k) g (S i) a w) μ i0 (hle c g a w hhn.1.symm R) fun i a w hs => ?_
  obtain ⟨g', R'⟩ := hs
  refine wp_mono (code_sound hE hhn hJ x hx (hround i) R') fun e a' w' q => ?_
  cases e with
  | normal =>
   obtain ⟨g'', s', ⟨j, h1, h3⟩, R''⟩ := q
   exact ⟨j, h1 c g'' a' w' hhn.1.symm R'', h3⟩
  | exit id => exact q
  | ret => exact q
  | panic ch => exact q
  | goto l => exact q.elim
  | outgrown => exact q.elim
 | .region id ops draw, ac, K, st, g, a, w, hc, h, R => by
  simp only [comp] at hc
  split at hc
  ·rename_i l hl
   split at hc
   ·rename_i hcond
    cases hc
    obtain ⟨hlen, hget⟩ := cops_get hl
    have hal : (regAl ops draw l).length = ops.size := by simp [regAl, hlen]
    have hops : ∀ (i : Nat) (x : AOper × Bool), (regAl ops draw l)[i]? = some x → ∃ o, ops[i]? = some o ∧ copG P ops c.n o = some x.1 := fun i x hx => by
     obtain ⟨o, h1, h2⟩ := hget i x.1 (regAl_get hx)
     exact ⟨o, by simpa using h1, h2⟩
    have hQ : ∀ a w st' g', (fun s => K .normal { s with nx := st.nx + (regAl ops draw l).length }) st' → Rel c (fun i => st.nx + ops.size ≤ i) g' st' a w → Lift c K .normal a w := fun a w st' g' k R' =>
     ⟨g', _, k, ⟨R'.size, R'.defers, R'.keep, R'.sle, R'.old, R'.agr, R'.tmp, R'.box, R'.row, R'.inj, fun i hi => R'.free i (by rw [← hal]; exact hi), R'.hand⟩⟩
    have hX : ∀ x p a w, (fun v => K (.pan v) st) p → PanR c p x w → a.defers = [] → Keep c.w0.heap.size c.gs c.w0 w → Lift c K (.panic [{ v := x, recovered := false }]) a w := fun x p a w k hp hd hk => ⟨x, p, st, rfl, k, hp, hd, hk⟩
    cases draw with
    | false =>
     have h' := seq_sound hE hhn hJ hal hops hQ hX (regAl ops false l) 0 (fun i => by rw [Nat.zero_add]) (by rw [hal]; omega) (R.weak fun i hi => by omega) (by rw [Nat.add_zero]; exact h)
     rw [hal] at h'
     exact wp_region (by rw [List.range_eq_range']; exact h')
    | true =>
     simp only [Bool.not_true, Bool.false_or, Bool.and_eq_true] at hcond
     have hr := runR_of (P := P) (E := E) (nx := st.nx) (regAl ops true l) 0 st (fun i => by rw [Nat.zero_add]) (by rw [Nat.add_zero]; exact h)
     refine wp_region_any hcond.2 ?_
     have R1 : Rel c (fun i => st.nx ≤ i) g st a { w with drawn := w.drawn + 1 } := R.step (w' := w.drew) ((Below.refl _ _).drew)
     refine any_sound hE hhn hJ hal hops hcond.1 hQ hX ops.size (List.range' 0 (regAl ops true l).length) _ (by simp [hal]) (List.pairwise_lt_range' ..) (by simp) (fun i => ?_) (fun k hk o ho e he hb hin => ?_) (R1.weak fun i hi => ?_) hr ops.size (Nat.le_refl _)
     ·rw [hal, List.mem_range'_1]
      constructor
      ·rintro ⟨_, h⟩; simp at h; exact ⟨h, by simp [h]⟩
      ·rintro ⟨h, _⟩; exact ⟨Nat.zero_le _, by simpa using h⟩
     ·rw [hal, List.mem_range'_1] at hk
      have := (Array.getElem?_eq_some_iff.1 ho).1
      exact hk ⟨Nat.zero_le _, by simpa using this⟩
     ·rcases hi with hi | ⟨k, _, rfl⟩ <;> omega
   ·cases hc; exact h.elim
  ·cases hc; exact h.elim
 | .rangeFunc .., ac, _, _, _, _, _, hc, h, _ => by simp only [comp, Option.some.injEq] at hc; subst hc; exact h.elim
 | .scope _, ac, _, _, _, _, _, hc, h, _ => by simp only [comp, Option.some.injEq] at hc; subst hc; exact h.elim
 | .goto _, ac, _, _, _, _, _, hc, h, _ => by simp only [comp, Option.some.injEq] at hc; subst hc; exact h.elim
 | .refuse _, ac, _, _, _, _, _, hc, h, _ => by simp only [comp, Option.some.injEq] at hc; subst hc; exact h.elim
def ACode.strip : ACode → ACode
 | .seq .fgt b => b.strip
 | .seq a b => .seq a.strip b.strip
 | .cond c x y => .cond c x.strip y.strip
 | .block id c => .block id c.strip
 | .loop c => .loop c.strip
 | c => c
theorem comp_seq {n : Nat} {code : Code} {x y : ACode} (h : comp P n code = some (.seq x y)) : ∃ a b, code = .seq a b ∧ comp P n a = some x ∧ comp P n b = some y := by
 cases code <;> simp only [comp, Option.map_eq_some_iff] at h <;> try (first|(cases h; done) | (obtain ⟨_, _, h⟩ := h; cases h; done))
 case seq a b =>
  split at h
  ·rename_i x' y' h1 h2; cases h; exact ⟨a, b, rfl, h1, h2⟩
  ·cases h
 case region => split at h <;> (try split at h) <;> cases h
 case cond => split at h <;> (try split at h) <;> cases h
theorem comp_cond {n : Nat} {code : Code} {o : Operand} {x y : ACode} (h : comp P n code = some (.cond o x y)) : ∃ a b, code = .cond o a b ∧ comp P n a = some x ∧ comp P n b = some y ∧ oOk o = true := by
 cases code <;> simp only [comp, Option.map_eq_some_iff] at h <;> try (first|(cases h; done) | (obtain ⟨_, _, h⟩ := h; cases h; done))
 case seq a b => split at h <;> cases h
 case region => split at h <;> (try split at h) <;> cases h
 case cond c a b =>
  split at h
  ·rename_i x' y' h1 h2
   split at h
   ·rename_i h3; cases h; exact ⟨a, b, rfl, h1, h2, h3⟩
   ·cases h
  ·cases h
theorem comp_block {n id : Nat} {code : Code} {x : ACode} (h : comp P n code = some (.block id x)) : ∃ a, code = .block id a ∧ comp P n a = some x := by
 cases code <;> simp only [comp, Option.map_eq_some_iff] at h <;> try (first|(cases h; done))
 case seq a b => split at h <;> cases h
 case region => split at h <;> (try split at h) <;> cases h
 case cond => split at h <;> (try split at h) <;> cases h
 case block i a => obtain ⟨x', h1, h2⟩ := h; cases h2; exact ⟨a, rfl, h1⟩
 case loop a => obtain ⟨x', h1, h2⟩ := h; cases h2
theorem comp_loop {n : Nat} {code : Code} {x : ACode} (h : comp P n code = some (.loop x)) : ∃ a, code = .loop a ∧ comp P n a = some x := by
 cases code <;> simp only [comp, Option.map_eq_some_iff] at h <;> try (first|(cases h; done))
 case seq a b => split at h <;> cases h
 case region => split at h <;> (try split at h) <;> cases h
 case cond => split at h <;> (try split at h) <;> cases h
 case block i a => obtain ⟨x', h1, h2⟩ := h; cases h2
 case loop a => obtain ⟨x', h1, h2⟩ := h; cases h2; exact ⟨a, rfl, h1⟩
theorem comp_fgt {n : Nat} {code : Code} (h : comp P n code = some .fgt) : False := by
 cases code <;> simp only [comp, Option.map_eq_some_iff] at h <;> try (first|(cases h; done) | (obtain ⟨_, _, h⟩ := h; cases h; done))
 case seq a b => split at h <;> cases h
 case region => split at h <;> (try split at h) <;> cases h
 case cond => split at h <;> (try split at h) <;> cases h
theorem lift_seq {K : AEx → AS → Prop} {y : Code} {N : AS → Prop} (h : ∀ {st g a w}, N st → Rel c (fun i => st.nx ≤ i) g st a w → y.wp P (Lift c K) a w) : ∀ e a w, Lift c (AEx.seq K N) e a w → Exit.then (fun a w => y.wp P (Lift c K) a w) (Lift c K) e a w := fun e a' w' q => by
 cases e with
 | normal =>
  obtain ⟨g', s', k, R'⟩ := q
  exact h k R'
 | exit id => exact q
 | ret => exact q
 | panic ch => exact q
 | goto l => exact q.elim
 | outgrown => exact q.elim
theorem code_soundF (hE : Ok P J E) (hhn : E.hn = c.gs.length ∧ J.lo ≤ c.w0.heap.size ∧ ∀ h ∈ c.gs, J.lo ≤ h) (hJ : ∀ w, Keep c.w0.heap.size c.gs c.w0 w → J w) : ∀ (ac : ACode) {code : Code} {K : AEx → AS → Prop} {st : AS} {g : Gh} {a : Act} {w : World}, comp P c.n code = some ac.strip → awp P E ac K st → Rel c (fun i => st.nx ≤ i) g st a w →
  code.wp P (Lift c K) a w
 | .skip, code, K, st, g, a, w, hc, h, R => code_sound hE hhn hJ code hc h R
 | .reg al, code, K, st, g, a, w, hc, h, R => code_sound hE hhn hJ code hc h R
 | .exit id, code, K, st, g, a, w, hc, h, R => code_sound hE hhn hJ code hc h R
 | .ret, code, K, st, g, a, w, hc, h, R => code_sound hE hhn hJ code hc h R
 | .bad, code, K, st, g, a, w, hc, h, R => h.elim
 | .fgt, code, K, st, g, a, w, hc, h, R => (comp_fgt hc).elim
 | .cond o x y, code, K, st, g, a, w, hc, h, R => by
  obtain ⟨x', y', rfl, hx, hy, ho⟩ := comp_cond (by simpa only [ACode.strip] using hc)
  obtain ⟨t, ht, h1, h2⟩ := h
  have e : a.eval o = .bool t := sc_rep (R.ev o ho) (by rw [ht]; rfl)
  exact wp_cond_split e (fun q => code_soundF hE hhn hJ x hx (h1 q) R) (fun q => code_soundF hE hhn hJ y hy (h2 q) R)
 | .block id x, code, K, st, g, a, w, hc, h, R => by
  obtain ⟨x', rfl, hx⟩ := comp_block (by simpa only [ACode.strip] using hc)
  refine wp_block (wp_mono (code_soundF hE hhn hJ x hx h R) fun e a' w' q => ?_)
  cases e with
  | exit id' =>
   obtain ⟨g', s', k, R'⟩ := q
   simp only [AEx.blk] at k
   simp only [Exit.inBlock]
   split at k
   ·rename_i he; rw [if_pos he]; exact ⟨g', s', k, R'⟩
   ·rename_i he; rw [if_neg he]; exact ⟨g', s', k, R'⟩
  | normal => exact q
  | ret => exact q
  | panic ch => exact q
  | goto l => exact q.elim
  | outgrown => exact q.elim
 | .loop x, code, K, st, g, a, w, hc, h, R => by
  obtain ⟨x', rfl, hx⟩ := comp_loop (by simpa only [ACode.strip] using hc)
  obtain ⟨ι, S, μ, i0, hle, hround⟩ := h
  refine wp_loop' (α := ι) (fun i a w => ∃ g, Rel c (fun k => (S i).nx ≤ k) g (S i) a w) μ i0 (hle c g a w hhn.1.symm R) fun i a w hs => ?_
  obtain ⟨g', R'⟩ := hs
  refine wp_mono (code_soundF hE hhn hJ x hx (hround i) R') fun e a' w' q => ?_
  cases e with
  | normal =>
   obtain ⟨g'', s', ⟨j, h1, h3⟩, R''⟩ := q
   exact ⟨j, h1 c g'' a' w' hhn.1.symm R'', h3⟩
  | exit id => exact q
  | ret => exact q
  | panic ch => exact q
  | goto l => exact q.elim
  | outgrown => exact q.elim
 | .seq x y, code, K, st, g, a, w, hc, h, R => by
  by_cases hx : x = .fgt
  ·subst hx
   obtain ⟨s', hle, h⟩ := h
   obtain ⟨g', R'⟩ := hle c g a w hhn.1.symm R
   exact code_soundF hE hhn hJ y (by simpa only [ACode.strip] using hc) h R'
  ·have e : (ACode.seq x y).strip = .seq x.strip y.strip := by cases x <;> first|rfl|exact absurd rfl hx
   rw [e] at hc
   obtain ⟨a', b', rfl, h1, h2⟩ := comp_seq hc
   exact wp_seq (wp_mono (code_soundF hE hhn hJ x h1 h R) (lift_seq fun k R' => code_soundF hE hhn hJ y h2 k R'))
end
end Go.Proofs.YtnjmilelifmfpaaGreatDoor.Ev

namespace Go.Proofs.YtnjmilelifmfpaaGreatDoor.Ev
open Go Go.RowKit
set_option linter.unusedSimpArgs false
set_option linter.unusedVariables false

inductive RV where
 | t (t : Nat)
 | c (ag : Bool) (n : Nat) (t : Nat)
def rvOf (P : Program) : ResultVar → Option RV
 | .tmp t => some (.t t)
 | .cell a t => match aggOf P t, szOf P t with | some ag, some n => some (.c ag n a) | _, _ => none
def rvs (P : Program) : List ResultVar → Option (List RV)
 | [] => some []
 | r :: l => match rvOf P r, rvs P l with | some x, some y => some (x :: y) | _, _ => none
def getR (P : Program) (st : AS) : RV → Option AV
 | .t t => some (st.t t)
 | .c ag n t => pv P st.ev st.bx st.gr (.ld ag n (.tmp t))
def okc : AV → Bool
 | .any | .tup _ => false
 | _ => true
def getRs (P : Program) (st : AS) : List RV → Option (List AV)
 | [] => some []
 | r :: l => match getR P st r, getRs P st l with | some x, some y => if okc (strip st.gr x) then some (strip st.gr x :: y) else none | _, _ => none
def outOf (P : Program) (st : AS) (rs : List RV) : Option AV :=
 match getRs P st rs with
 | some [x] => some x
 | some l => some (.tup l)
 | none => none
def refRs (P : Program) (st : AS) : List RV → List Nat
 | [] => []
 | r :: l => (match getR P st r with | some x => refs x | none => []) ++ refRs P st l
def start (args : List AV) : AS := ⟨fun i => (args[i]?).getD .any, fun _ => none, fun _ => none, 0⟩
def fin (P : Program) (rs : List RV) (K : AOut → Prop) : AEx → AS → Prop
 | .normal, s | .ret, s => ∃ v, outOf P s rs = some v ∧ K (.ret v)
 | .pan v, _ => K (.pan v)
 | _, _ => False
section
variable {P : Program} {E : Env} {J : JW} {c : Cx} {fr : Nat → Prop} {g : Gh} {st : AS} {a : Act} {w : World}
theorem start_rep {g : Gh} {args : List AV} {us : List Value} {n : Nat} (ha : All2 (Rep g) args us) (i : Nat) : Rep g ((args[i]?).getD .any) ((us.toArray ++ Array.replicate (n - us.toArray.size) undef).getD i undef) := by
 have hd : (us.toArray ++ Array.replicate (n - us.toArray.size) undef).getD i undef = us[i]?.getD undef := by
  by_cases hi : i < us.length
  ·simp [Array.getElem?_append, hi]
  ·simp [Array.getElem?_append, hi, Array.getElem?_replicate, List.getElem?_eq_none (Nat.le_of_not_lt hi)]
   split <;> rfl
 rw [hd]
 cases hq : args[i]? with
 | none => exact .any
 | some x =>
  obtain ⟨u, hu, rp⟩ := ha.get hq
  rw [hu]; exact rp
def rRun (a : Act) (r : ResultVar) : Sem Value := match r with
 | .tmp t => pure (a.tmps.getD t undef)
 | .cell b t => do loadVar t (← asAddr (a.tmps.getD b undef))
theorem getR_run (R : Rel c fr g st a w) {r : ResultVar} {v : RV} (hr : rvOf P r = some v) {x : AV} (h : getR P st v = some x) : ∃ u, (rRun a r).run P w = .ok u w ∧ Rep g x u := by
 cases r with
 | tmp t =>
  simp only [rvOf, Option.some.injEq] at hr; subst hr
  simp only [getR, Option.some.injEq] at h; subst h
  exact ⟨_, rfl, R.tmp t⟩
 | cell b t =>
  simp only [rvOf] at hr
  split at hr
  ·rename_i ag n ha hs
   cases hr
   obtain ⟨u, hu, rp⟩ := pv_ld (dst := none) (type := 0) (pos := "") (after := #[]) (guard := none) R ha hs (x := .tmp b) rfl h
   refine ⟨u, ?_, rp⟩
   simp only [execOp, Instr.loadAt, Act.eval, Sem.run_bind] at hu
   simp only [rRun, Sem.run_bind]
   generalize a.tmps.getD b undef = q at hu ⊢
   cases q with
   | pointer p =>
    cases p with
    | none => simp [Instr.sureAddr] at hu
    | some p =>
     simp only [Instr.sureAddr, asAddr, Sem.run_pure, Result.andThen_ok] at hu ⊢
     generalize (loadVar t p).run P w = q at hu ⊢
     cases q with
     | ok x w' =>
      simp only [Result.andThen_ok] at hu
      simp only [Sem.run_pure, Result.ok.injEq, Next.value.injEq] at hu
      obtain ⟨rfl, rfl⟩ := hu
      rfl
     | halt e w' => simp at hu
   | _ => simp [Instr.sureAddr] at hu
  ·cases hr
theorem strip_ncom (R : Rel c fr g st a w) {y : AV} {u : Value} (h : Rep g y u) (hs : Shut st.gr (refs y)) (hn : okc (strip st.gr y) = true) : Com (g0 g.S) (strip st.gr y) u := by
 cases h with
 | com cm => exact strip_com R cm hs
 | tup cs => simp [strip, okc] at hn
 | any => simp [strip, pcell, okc] at hn
theorem getRs_run (R : Rel c fr g st a w) : ∀ {rs : List ResultVar} {vs : List RV} {xs : List AV}, rvs P rs = some vs → Shut st.gr (refRs P st vs) → getRs P st vs = some xs → ∃ us : List Value, (rs.mapM (rRun a)).run P w = .ok us w ∧ All2 (Com (g0 g.S)) xs us
 | [], vs, xs, h, _, k => by
  simp only [rvs, Option.some.injEq] at h; subst h
  simp only [getRs, Option.some.injEq] at k; subst k
  exact ⟨[], rfl, .nil⟩
 | r :: rs, vs, xs, h, hs, k => by
  simp only [rvs] at h
  split at h
  ·rename_i v vs' h1 h2
   cases h
   simp only [getRs] at k
   split at k
   ·rename_i x xs' k1 k2
    split at k
    ·rename_i hok
     cases k
     obtain ⟨u, e1, r1⟩ := getR_run R h1 k1
     obtain ⟨us, e2, r2⟩ := getRs_run R h2 (fun k hk => hs k (by simp only [refRs]; exact List.mem_append_right _ hk)) k2
     refine ⟨u :: us, ?_, .cons (strip_ncom R r1 (fun k hk => hs k (by simp only [refRs, k1]; exact List.mem_append_left _ hk)) hok) r2⟩
     rw [List.mapM_cons, Sem.run_bind, e1]
     simp only [Result.andThen_ok]
     rw [Sem.run_bind, e2]
     rfl
    ·cases k
   ·cases k
  ·cases h
theorem results_run (R : Rel c fr g st a w) {fn : Func} {vs : List RV} (h : rvs P fn.results.toList = some vs) (hs : Shut st.gr (refRs P st vs)) {x : AV} (k : outOf P st vs = some x) : ∃ u, (results fn a.tmps).run P w = .ok u w ∧ Rep (g0 g.S) x u := by
 unfold outOf at k
 have go : ∀ xs, getRs P st vs = some xs → ∃ us : List Value, (fn.results.mapM (rRun a)).run P w = .ok us.toArray w ∧ All2 (Com (g0 g.S)) xs us := fun xs hx => by
  obtain ⟨us, e, r⟩ := getRs_run R h hs hx
  refine ⟨us, ?_, r⟩
  have : (fn.results.mapM (rRun a)) = (do let l ← fn.results.toList.mapM (rRun a); pure l.toArray) := by
   rw [← Array.toArray_toList (xs := fn.results), List.mapM_toArray]
   simp
  rw [this, Sem.run_bind, e]
  rfl
 have hres : ∀ us : List Value, (fn.results.mapM (rRun a)).run P w = .ok us.toArray w → (results fn a.tmps).run P w = .ok (if h : us.toArray.size = 1 then us.toArray[0] else .tuple us.toArray) w := fun us e => by
  have : results fn a.tmps = (do let vs ← fn.results.mapM (rRun a); pure (if h : vs.size = 1 then vs[0] else .tuple vs)) := rfl
  rw [this, Sem.run_bind, e]
  rfl
 split at k
 ·rename_i y hy
  cases k
  obtain ⟨us, e, r⟩ := go _ hy
  cases r with
  | cons r1 r2 => cases r2; exact ⟨_, hres _ e, .com r1⟩
 ·rename_i l hne hy
  cases k
  obtain ⟨us, e, r⟩ := go _ hy
  refine ⟨_, hres _ e, ?_⟩
  have hlen : ¬ us.toArray.size = 1 := fun h1 => by
   have : l.length = 1 := by rw [r.length]; simpa using h1
   match l, this with
   | [y], _ => exact hne y rfl
  rw [dif_neg hlen]
  exact .tup r
 ·cases k
theorem stripK_ncom (R : Rel c fr g st a w) {y : AV} {u : Value} (h : Rep g y u) (hs : Shut st.gr (refs y)) (hn : okc (stripK st.gr y) = true) : Com (g0 g.S) (stripK st.gr y) u := by
 cases h with
 | com cm => exact stripK_com R cm hs
 | tup cs => simp [stripK, strip, okc] at hn
 | any => simp [stripK, strip, pcell, okc] at hn
def getRsK (P : Program) (st : AS) : List RV → Option (List AV)
 | [] => some []
 | r :: l => match getR P st r, getRsK P st l with | some x, some y => if okc (stripK st.gr x) then some (stripK st.gr x :: y) else none | _, _ => none
def outOfK (P : Program) (st : AS) (rs : List RV) : Option AV :=
 match getRsK P st rs with
 | some [x] => some x
 | some l => some (.tup l)
 | none => none
theorem getRsK_run (R : Rel c fr g st a w) : ∀ {rs : List ResultVar} {vs : List RV} {xs : List AV}, rvs P rs = some vs → Shut st.gr (refRs P st vs) → getRsK P st vs = some xs → ∃ us : List Value, (rs.mapM (rRun a)).run P w = .ok us w ∧ All2 (Com (g0 g.S)) xs us
 | [], vs, xs, h, _, k => by
  simp only [rvs, Option.some.injEq] at h; subst h
  simp only [getRsK, Option.some.injEq] at k; subst k
  exact ⟨[], rfl, .nil⟩
 | r :: rs, vs, xs, h, hs, k => by
  simp only [rvs] at h
  split at h
  ·rename_i v vs' h1 h2
   cases h
   simp only [getRsK] at k
   split at k
   ·rename_i x xs' k1 k2
    split at k
    ·rename_i hok
     cases k
     obtain ⟨u, e1, r1⟩ := getR_run R h1 k1
     obtain ⟨us, e2, r2⟩ := getRsK_run R h2 (fun k hk => hs k (by simp only [refRs]; exact List.mem_append_right _ hk)) k2
     refine ⟨u :: us, ?_, .cons (stripK_ncom R r1 (fun k hk => hs k (by simp only [refRs, k1]; exact List.mem_append_left _ hk)) hok) r2⟩
     rw [List.mapM_cons, Sem.run_bind, e1]
     simp only [Result.andThen_ok]
     rw [Sem.run_bind, e2]
     rfl
    ·cases k
   ·cases k
  ·cases h
theorem results_runK (R : Rel c fr g st a w) {fn : Func} {vs : List RV} (h : rvs P fn.results.toList = some vs) (hs : Shut st.gr (refRs P st vs)) {x : AV} (k : outOfK P st vs = some x) : ∃ u, (results fn a.tmps).run P w = .ok u w ∧ Rep (g0 g.S) x u := by
 unfold outOfK at k
 have go : ∀ xs, getRsK P st vs = some xs → ∃ us : List Value, (fn.results.mapM (rRun a)).run P w = .ok us.toArray w ∧ All2 (Com (g0 g.S)) xs us := fun xs hx => by
  obtain ⟨us, e, r⟩ := getRsK_run R h hs hx
  refine ⟨us, ?_, r⟩
  have : (fn.results.mapM (rRun a)) = (do let l ← fn.results.toList.mapM (rRun a); pure l.toArray) := by
   rw [← Array.toArray_toList (xs := fn.results), List.mapM_toArray]
   simp
  rw [this, Sem.run_bind, e]
  rfl
 have hres : ∀ us : List Value, (fn.results.mapM (rRun a)).run P w = .ok us.toArray w → (results fn a.tmps).run P w = .ok (if h : us.toArray.size = 1 then us.toArray[0] else .tuple us.toArray) w := fun us e => by
  have : results fn a.tmps = (do let vs ← fn.results.mapM (rRun a); pure (if h : vs.size = 1 then vs[0] else .tuple vs)) := rfl
  rw [this, Sem.run_bind, e]
  rfl
 split at k
 ·rename_i y hy
  cases k
  obtain ⟨us, e, r⟩ := go _ hy
  cases r with
  | cons r1 r2 => cases r2; exact ⟨_, hres _ e, .com r1⟩
 ·rename_i l hne hy
  cases k
  obtain ⟨us, e, r⟩ := go _ hy
  refine ⟨_, hres _ e, ?_⟩
  have hlen : ¬ us.toArray.size = 1 := fun h1 => by
   have : l.length = 1 := by rw [r.length]; simpa using h1
   match l, this with
   | [y], _ => exact hne y rfl
  rw [dif_neg hlen]
  exact .tup r
 ·cases k
theorem pcells_shut {gr : Gr} {ks : List Nat} {cs : List AV} : cs.map (pcell (shut gr ks)) = cs.map (pcell gr) := by rw [show pcell (shut gr ks) = pcell gr from funext fun _ => pcell_shut]
theorem ret_shut {s : AS} {vs : List RV} (ks : List Nat) : (outOf P { s with gr := shut s.gr ks } vs = outOf P s vs ∧ outOfK P { s with gr := shut s.gr ks } vs = outOfK P s vs) ∧ refRs P { s with gr := shut s.gr ks } vs = refRs P s vs := by
 have e1 : ({ s with gr := shut s.gr ks } : AS).ev = s.ev := by funext x; cases x <;> rfl
 have e2 : ∀ v, getR P { s with gr := shut s.gr ks } v = getR P s v := fun v => by
  cases v with
  | t t => rfl
  | c ag n t =>
   simp only [getR, pv, e1]
   cases s.ev (.tmp t) <;> try rfl
   rename_i k sz i o
   simp only [shut]
   by_cases hk : k ∈ ks
   ·simp only [hk, if_true]; cases s.gr k <;> rfl
   ·simp only [hk, if_false]
 have e3 : ∀ l, getRs P { s with gr := shut s.gr ks } l = getRs P s l := fun l => by
  induction l with
  | nil => rfl
  | cons v l ih => simp only [getRs, e2, ih, strip_shut]
 have e4 : ∀ l, getRsK P { s with gr := shut s.gr ks } l = getRsK P s l := fun l => by
  induction l with
  | nil => rfl
  | cons v l ih => simp only [getRsK, e2, ih, stripK_shut]
 refine ⟨⟨by unfold outOf; rw [e3], by unfold outOfK; rw [e4]⟩, ?_⟩
 have : ∀ l, refRs P { s with gr := shut s.gr ks } l = refRs P s l := fun l => by
  induction l with
  | nil => rfl
  | cons v l ih => simp only [refRs, e2, ih]
 exact this vs
def finW (P : Program) (rs : List RV) (K : AOut → Prop) : AEx → AS → Prop
 | .normal, s | .ret, s => ∃ v, (outOf P s rs = some v ∨ outOfK P s rs = some v) ∧ K (.ret v)
 | .pan v, _ => K (.pan v)
 | _, _ => False
theorem runOps_mono {K K' : AS → Prop} {X X' : AV → Prop} (hk : ∀ s, K s → K' s) (hx : ∀ v, X v → X' v) : ∀ {l : List (AOper × Bool)} {id : Nat} {st : AS}, runOps P E K X id l st → runOps P E K' X' id l st
 | [], _, _, h => hk _ h
 | (o, z) :: l, _, _, h => by
  rcases stpG_iff.1 h with ⟨s1, h1, h2⟩ | ⟨v, h1, h2⟩
  ·exact stpG_iff.2 (.inl ⟨s1, h1, runOps_mono hk hx h2⟩)
  ·exact stpG_iff.2 (.inr ⟨v, h1, h2.1, hx _ h2.2⟩)
theorem seq_mono {K K' : AEx → AS → Prop} {N N' : AS → Prop} (hk : ∀ e s, K e s → K' e s) (hn : ∀ s, N s → N' s) : ∀ e s, AEx.seq K N e s → AEx.seq K' N' e s := fun e s h => by
 cases e <;> first|exact hn _ h|exact hk _ _ h
theorem blk_mono {K K' : AEx → AS → Prop} {id : Nat} (hk : ∀ e s, K e s → K' e s) : ∀ e s, AEx.blk id K e s → AEx.blk id K' e s := fun e s h => by
 cases e <;> try exact hk _ _ h
 simp only [AEx.blk] at h ⊢
 split at h
 ·rename_i e; rw [if_pos e]; exact hk _ _ h
 ·rename_i e; rw [if_neg e]; exact hk _ _ h
theorem awp_mono : ∀ (c : ACode) {K K' : AEx → AS → Prop} {st : AS}, (∀ e s, K e s → K' e s) → awp P E c K st → awp P E c K' st
 | .skip, _, _, _, hk, h => hk _ _ h
 | .reg al, _, _, _, hk, h => runOps_mono (fun s => hk _ _) (fun v => hk _ _) h
 | .seq a b, _, _, _, hk, h => awp_mono a (seq_mono hk fun s => awp_mono b hk) h
 | .cond c x y, _, _, _, hk, ⟨t, h0, h1, h2⟩ => ⟨t, h0, fun q => awp_mono x hk (h1 q), fun q => awp_mono y hk (h2 q)⟩
 | .block id c, _, _, _, hk, h => awp_mono c (blk_mono hk) h
 | .loop c, _, _, _, hk, ⟨ι, S, μ, i0, h0, h1⟩ => ⟨ι, S, μ, i0, h0, fun i => awp_mono c (seq_mono hk fun s q => q) (h1 i)⟩
 | .exit id, _, _, _, hk, h => hk _ _ h
 | .ret, _, _, _, hk, h => hk _ _ h
 | .bad, _, _, _, _, h => h.elim
 | .fgt, _, _, _, hk, ⟨s', h1, h2⟩ => ⟨s', h1, hk _ _ h2⟩
theorem fn_soundW (hE : Ok P J E) (h0 : E.hn = 0) (hJ : JOk J) {f : FuncId} {fn : Func} {code : Code} {ac : ACode} {vs : List RV} (hf : P.funcs[f]? = some fn) (hb : fn.body = some code)
  (hc : comp P fn.ntmps code = some ac.strip) (hr : rvs P fn.results.toList = some vs) {args : List AV} (hn : args.length ≤ fn.ntmps) {out : AOut} (h : awp P E ac (finW P vs (· = out)) (start args))
  (S : Snap) (w : World) (us : List Value) (hw : J w) (hA : Agr S w) (ha : All2 (Rep (g0 S)) args us) : Calls P f us.toArray w (Post S w out) := by
 refine calls_of_wp hf hb (wp_mono (code_soundF (c := ⟨w, S, fn.ntmps, []⟩) (g := g0 S) hE ⟨by simp [h0], hJ.lo w hw, by simp⟩ (fun w' hk => hJ.keep w w' _ [] (hJ.lo w hw) (by simp) hk hw) ac hc h ?_) fun e a' w' q => ?_)
 ·have hl := ha.length
  refine ⟨by simp; omega, rfl, .refl _ _ _, SLe.refl _, fun _ _ _ => rfl, hA, fun i => ?_, fun b cs hb => by simp [start] at hb, fun k r hk => by simp [start] at hk, fun x y h hx hy => ?_, fun i _ => ⟨rfl, rfl⟩, fun j h hj => by simp at hj⟩
  ·exact start_rep ha i
  ·obtain ⟨t, i⟩ := x
   cases t <;> simp [Owns, start] at hx
 ·have ret : ∀ (s : AS) (g' : Gh), (∃ v, (outOf P s vs = some v ∨ outOfK P s vs = some v) ∧ AOut.ret v = out) → Rel ⟨w, S, fn.ntmps, []⟩ (fun i => s.nx ≤ i) g' s a' w' → a'.defers = [] ∧ ∃ v, (results fn a'.tmps).run P w' = .ok v w' ∧ Post S w out (.returned v) w' := fun s g' ⟨v, hv, ho⟩ R => by
   obtain ⟨g2, L2, _, _, R2⟩ := R.shuts (refRs P s vs)
   obtain ⟨u, hu, rp⟩ : ∃ u, (results fn a'.tmps).run P w' = .ok u w' ∧ Rep (g0 g2.S) v u := hv.elim (fun hv => results_run R2 hr (by rw [(ret_shut _).2]; exact shut_shut) (by rw [(ret_shut _).1.1]; exact hv)) (fun hv => results_runK R2 hr (by rw [(ret_shut _).2]; exact shut_shut) (by rw [(ret_shut _).1.2]; exact hv))
   subst ho
   exact ⟨R.defers, u, hu, g2.S, R2.sle, R2.old, R2.agr, R.keep.below, rp⟩
  cases e with
  | normal => obtain ⟨g', s, k, R⟩ := q; exact ret s g' k R
  | ret => obtain ⟨g', s, k, R⟩ := q; exact ret s g' k R
  | panic ch =>
   obtain ⟨x, p, s, rfl, k, hp, hd, hk⟩ := q
   have k' : AOut.pan p = out := k
   have hp' : p = .s x := hp
   subst k' hp'
   exact ⟨hd, x, rfl, rfl, hk.below⟩
  | exit id => obtain ⟨g', s, k, R⟩ := q; exact k
  | goto l => exact q.elim
  | outgrown => exact q.elim
theorem fn_sound (hE : Ok P J E) (h0 : E.hn = 0) (hJ : JOk J) {f : FuncId} {fn : Func} {code : Code} {ac : ACode} {vs : List RV} (hf : P.funcs[f]? = some fn) (hb : fn.body = some code)
  (hc : comp P fn.ntmps code = some ac.strip) (hr : rvs P fn.results.toList = some vs) {args : List AV} (hn : args.length ≤ fn.ntmps) {out : AOut} (h : awp P E ac (fin P vs (· = out)) (start args))
  (S : Snap) (w : World) (us : List Value) (hw : J w) (hA : Agr S w) (ha : All2 (Rep (g0 S)) args us) : Calls P f us.toArray w (Post S w out) :=
 fn_soundW hE h0 hJ hf hb hc hr hn (awp_mono ac (fun e s h => by
  cases e with
  | normal => obtain ⟨v, h1, h2⟩ := h; exact ⟨v, .inl h1, h2⟩
  | ret => obtain ⟨v, h1, h2⟩ := h; exact ⟨v, .inl h1, h2⟩
  | pan v => exact h
  | exit i => exact h) h) S w us hw hA ha
def handsG (gr : Gr) (bx : Nat → Option (List AV)) : Nat → Nat → Option (List AV)
 | 0, _ => some []
 | n + 1, k => match bx k, handsG gr bx n (k + 1) with
  | some cs, some l => some (.agg (cs.map (pcell gr)) :: l)
  | _, _ => none
def refsH (bx : Nat → Option (List AV)) : Nat → Nat → List Nat
 | 0, _ => []
 | n + 1, k => (match bx k with | some cs => cs.flatMap refC | none => []) ++ refsH bx n (k + 1)
theorem handsG_get {gr : Gr} {bx : Nat → Option (List AV)} : ∀ {n k : Nat} {l : List AV}, handsG gr bx n k = some l → ∃ css : List (List AV), l = css.map .agg ∧ css.length = n ∧ ∀ (j : Nat) (cs : List AV), css[j]? = some cs → ∃ ds, bx (k + j) = some ds ∧ cs = ds.map (pcell gr) ∧ ∀ q ∈ ds.flatMap refC, q ∈ refsH bx n k
 | 0, k, l, h => by simp only [handsG, Option.some.injEq] at h; subst h; exact ⟨[], rfl, rfl, by simp⟩
 | n + 1, k, l, h => by
  simp only [handsG] at h
  split at h
  ·rename_i ds l' h1 h2
   cases h
   obtain ⟨css, rfl, e, f⟩ := handsG_get h2
   refine ⟨ds.map (pcell gr) :: css, rfl, by simp [e], fun j cs hj => ?_⟩
   cases j with
   | zero => simp at hj; subst hj; exact ⟨ds, h1, rfl, fun q hq => by simp only [refsH, Nat.add_zero, h1]; exact List.mem_append_left _ hq⟩
   | succ j =>
    obtain ⟨ds', d1, d2, d3⟩ := f j cs (by simpa using hj)
    exact ⟨ds', by rw [show k + (j + 1) = k + 1 + j by omega]; exact d1, d2, fun q hq => by simp only [refsH]; exact List.mem_append_right _ (d3 q hq)⟩
  ·cases h
def finH (P : Program) (rs : List RV) (hn : Nat) (K : AOut → Prop) : AEx → AS → Prop
 | .normal, s | .ret, s => ∃ v l, outOf P s rs = some v ∧ handsG s.gr s.bx hn 0 = some l ∧ K (.ret (.tup (v :: l)))
 | .pan p, _ => K (.pan p)
 | _, _ => False
def startH (css : List (List AV)) (args : List AV) : AS := ⟨fun i => (args[i]?).getD .any, fun j => css[j]?, fun _ => none, css.length⟩
theorem fn_soundH (hE : Ok P J E) (hJ : JOk J) {f : FuncId} {fn : Func} {code : Code} {ac : ACode} {vs : List RV} (hf : P.funcs[f]? = some fn) (hb : fn.body = some code)
  (hc : comp P fn.ntmps code = some ac.strip) (hr : rvs P fn.results.toList = some vs) {css : List (List AV)} {args : List AV} (h0 : css.length = E.hn) (hpos : 0 < E.hn) (hn : args.length ≤ fn.ntmps) {out : AOut} (h : awp P E ac (finH P vs E.hn (· = out)) (startH css args))
  (S : Snap) (w : World) (hs : List Nat) (us : List Value) (hw : J w) (hA : Agr S w) (hH : Handed J.lo S w hs (css.map .agg)) (ha : All2 (Rep (gH S hs)) args us) : Calls P f us.toArray w (PostH S w hs out) := by
 have hlen : css.length = hs.length := by have := hH.len; simpa using this
 have hbox : ∀ j cs h, css[j]? = some cs → hs[j]? = some h → ∃ vs T, w.heap[h]? = some (.cells vs T (0, 0)) ∧ All2 (Pur S) cs vs.toList ∧ ∀ o, S h o = none := fun j cs h hj hh => by
  obtain ⟨cs', vs, T, e, k⟩ := hH.box j (.agg cs) h (by rw [List.getElem?_map, hj]; rfl) hh
  cases e
  exact ⟨vs, T, k⟩
 refine calls_of_wp hf hb (wp_mono (code_soundF (c := ⟨w, S, fn.ntmps, hs⟩) (g := gH S hs) hE ⟨by simp only; omega, hJ.lo w hw, hH.ge⟩ (fun w' hk => hJ.keep w w' _ hs (hJ.lo w hw) hH.ge hk hw) ac hc h ?_) fun e a' w' q => ?_)
 ·have hl := ha.length
  refine ⟨by simp; omega, rfl, .refl _ _ _, SLe.refl _, fun _ _ _ => rfl, hA, fun i => start_rep ha i, fun b cs hb => ?_, fun k r hk => by simp [startH] at hk, fun x y h hx hy => ?_, fun i hi => ⟨?_, rfl⟩, fun j h hj => hj⟩
  ·have hb' : css[b]? = some cs := hb
   have hlt : b < hs.length := by rw [← hlen]; exact (List.getElem?_eq_some_iff.1 hb').1
   obtain ⟨vs, T, k1, k2, k3⟩ := hbox b cs _ hb' (List.getElem?_eq_getElem hlt)
   exact ⟨hs[b], vs, T, List.getElem?_eq_getElem hlt, .inr (List.getElem_mem hlt), k1, k2.imp fun _ _ p => .pur p, k3⟩
  ·obtain ⟨t, i⟩ := x
   obtain ⟨t', i'⟩ := y
   cases t with
   | false => obtain ⟨⟨r, h1, _⟩, _⟩ := hx; simp [startH] at h1
   | true =>
    cases t' with
    | false => obtain ⟨⟨r, h1, _⟩, _⟩ := hy; simp [startH] at h1
    | true =>
     obtain ⟨_, e1⟩ := hx
     obtain ⟨_, e2⟩ := hy
     have e1' : hs[i]? = some h := e1
     have e2' : hs[i']? = some h := e2
     have l1 := (List.getElem?_eq_some_iff.1 e1').1
     have l2 := (List.getElem?_eq_some_iff.1 e2').1
     rw [of_nodup hH.nd e1' e2']
  ·have hi' : css.length ≤ i := hi
   show hs[i]? = none
   exact List.getElem?_eq_none (by omega)
 ·have ret : ∀ (s : AS) (g' : Gh), (∃ v l, outOf P s vs = some v ∧ handsG s.gr s.bx E.hn 0 = some l ∧ AOut.ret (.tup (v :: l)) = out) → Rel ⟨w, S, fn.ntmps, hs⟩ (fun i => s.nx ≤ i) g' s a' w' → a'.defers = [] ∧ ∃ v, (results fn a'.tmps).run P w' = .ok v w' ∧ PostH S w hs out (.returned v) w' := fun s g' ⟨v, l, hv, hl, ho⟩ R => by
   obtain ⟨g2, L2, _, _, R2⟩ := R.shuts (refRs P s vs ++ refsH s.bx E.hn 0)
   obtain ⟨u, hu, rp⟩ := results_run R2 hr (by rw [(ret_shut _).2]; exact fun k hk => shut_shut k (List.mem_append_left _ hk)) (by rw [(ret_shut _).1.1]; exact hv)
   subst ho
   obtain ⟨css', rfl, c1, c2⟩ := handsG_get hl
   refine ⟨R.defers, u, hu, g2.S, ⟨R2.sle, R2.old, R2.agr, css', rfl, by omega, fun j cs h hj hh => ?_⟩, R.keep, rp⟩
   obtain ⟨ds, d1, rfl, d3⟩ := c2 j cs hj
   rw [Nat.zero_add] at d1
   obtain ⟨h', us', T, k1, k2, k3, k4, k5⟩ := R2.box j ds d1
   rw [R2.hand j h hh] at k1; cases k1
   refine ⟨us', T, k3, ?_⟩
   rw [← pcells_shut (ks := refRs P s vs ++ refsH s.bx E.hn 0)]
   exact pcells_pur R2 k4 fun y hy k hk => shut_shut k (List.mem_append_right _ (d3 k (List.mem_flatMap.2 ⟨y, hy, hk⟩)))
  cases e with
  | normal => obtain ⟨g', s, k, R⟩ := q; exact ret s g' k R
  | ret => obtain ⟨g', s, k, R⟩ := q; exact ret s g' k R
  | panic ch =>
   obtain ⟨x, p, s, rfl, k, hp, hd, hk⟩ := q
   have k' : AOut.pan p = out := k
   subst k'
   unfold PanR at hp
   dsimp only at hp
   cases hs with
   | nil => rw [← h0, hlen] at hpos; simp at hpos
   | cons h0' hs' =>
    obtain ⟨S', l, rfl, hE'⟩ := hp
    exact ⟨hd, S', x, rfl, rfl, hE', hk⟩
  | exit id => obtain ⟨g', s, k, R⟩ := q; exact k
  | goto l => exact q.elim
  | outgrown => exact q.elim
end
end Go.Proofs.YtnjmilelifmfpaaGreatDoor.Ev

namespace Go.Proofs.YtnjmilelifmfpaaGreatDoor.Ev
open Go Go.RowKit
abbrev T (n : Nat) : Operand := .tmp n
abbrev I (n : Int) : Operand := .const (.int .i64 n)
abbrev U8 (n : Int) : Operand := .const (.int .u8 n)
abbrev B (b : Bool) : Operand := .const (.bool b)
abbrev S (l : List UInt8) : Operand := .const (.string ⟨l.toArray⟩)
abbrev NilS : Operand := .const (.slice none 0 0)
abbrev a (d : Nat) (op : AOp) : AOper × Bool := (⟨some d, none, op⟩, false)
abbrev b (d : Nat) (op : AOp) : AOper × Bool := (⟨some d, none, op⟩, true)
abbrev a0 (op : AOp) : AOper × Bool := (⟨none, none, op⟩, false)
abbrev b0 (op : AOp) : AOper × Bool := (⟨none, none, op⟩, true)
abbrev ag (d t : Nat) (w : Bool) (op : AOp) : AOper × Bool := (⟨some d, some (t, w), op⟩, false)
abbrev bg (d t : Nat) (w : Bool) (op : AOp) : AOper × Bool := (⟨some d, some (t, w), op⟩, true)
end Go.Proofs.YtnjmilelifmfpaaGreatDoor.Ev

namespace Go.Proofs.YtnjmilelifmfpaaGreatDoor.Ev
open Go Go.RowKit
set_option linter.unusedSimpArgs false
set_option linter.unusedVariables false
def tm : List (Nat × AV) → Nat → AV
 | [], _ => .any
 | (d, v) :: l, i => if i = d then v else tm l i
def bm {α : Type} : List (Nat × Option α) → Nat → Option α
 | [], _ => none
 | (d, v) :: l, i => if i = d then v else bm l i
section
variable {l : List (Nat × AV)} {bx : List (Nat × Option (List AV))} {lv : List (Nat × Option GR)} {nx i d : Nat} {v : AV}
theorem put_some : AS.put ⟨tm l, bm bx, bm lv, nx⟩ (some d) v = ⟨tm ((d, v) :: l), bm bx, bm lv, nx⟩ := rfl
theorem put_none {st : AS} : AS.put st none v = st := rfl
theorem upd_bm {α : Type} {l : List (Nat × Option α)} {o : Option α} : upd (bm l) i o = bm ((i, o) :: l) := rfl
theorem tm_hit : tm ((i, v) :: l) i = v := if_pos rfl
theorem tm_miss (h : i ≠ d) : tm ((d, v) :: l) i = tm l i := if_neg h
theorem bm_hit {α : Type} {l : List (Nat × Option α)} {o : Option α} : bm ((i, o) :: l) i = o := if_pos rfl
theorem bm_miss {α : Type} {l : List (Nat × Option α)} {o : Option α} (h : i ≠ d) : bm ((d, o) :: l) i = bm l i := if_neg h
theorem ev_t {bx : Nat → Option (List AV)} {lv : Gr} : AS.ev ⟨tm l, bx, lv, nx⟩ (.tmp i) = tm l i := rfl
theorem ev_I {st : AS} {n : Int} : st.ev (I n) = .s (.int .i64 n) := rfl
theorem ev_U8 {st : AS} {n : Int} : st.ev (U8 n) = .s (.int .u8 n) := rfl
theorem ev_B {st : AS} {x : Bool} : st.ev (B x) = .s (.bool x) := rfl
theorem ev_S {st : AS} {x : List UInt8} : st.ev (S x) = .s (.string ⟨x.toArray⟩) := rfl
theorem ev_Nil {st : AS} : st.ev NilS = .s (.slice none 0 0) := rfl
end
theorem shut_bm {l : List (Nat × Option GR)} {ks : List Nat} : shut (bm l) ks = bm (l.map fun p => (p.1, if p.1 ∈ ks then p.2.map GR.shut else p.2)) := by
 funext k
 induction l with
 | nil => simp [shut, bm]
 | cons p l ih =>
  simp only [List.map_cons, bm]
  unfold shut at ih ⊢
  by_cases hk : k = p.1
  ·subst hk; simp [bm]
  ·simp only [bm, hk, if_false]; exact ih
theorem shut_no {gr : Gr} : shut gr [] = gr := shut_nil
theorem l_s {x : Value} {ks : List Nat} : lent (.s x) ks = [] := rfl
theorem l_agg {cs : List AV} {ks : List Nat} : lent (.agg cs) ks = ks := rfl
theorem l_row {xs : List (List AV)} {ks : List Nat} : lent (.row xs) ks = ks := rfl
theorem l_nil {v : AV} : lent v [] = [] := by unfold lent; split <;> rfl
theorem l_t0 {ks : List Nat} : lent (.tup []) ks = [] := rfl
theorem l_ts {x : Value} {l : List AV} {ks : List Nat} : lent (.tup (.s x :: l)) ks = lent (.tup l) ks := rfl
theorem l_ta {cs l : List AV} {ks : List Nat} : lent (.tup (.agg cs :: l)) ks = ks := rfl
theorem l_tr {xs : List (List AV)} {l : List AV} {ks : List Nat} : lent (.tup (.row xs :: l)) ks = ks := rfl
section
variable {P : Program} {E : Env} {K : AS → Prop} {X : AV → Prop} {id nx t : Nat} {d : Option Nat} {op : AOp} {z : Bool} {l : List (AOper × Bool)} {st : AS} {L : List (Nat × AV)} {bx : Nat → Option (List AV)} {gr : Gr}
theorem r_nil : runOps P E K X id [] ⟨tm L, bx, gr, nx⟩ = K ⟨tm L, bx, gr, nx⟩ := rfl
theorem r_op : runOps P E K X id ((⟨d, none, op⟩, z) :: l) ⟨tm L, bx, gr, nx⟩ = stp P E id ⟨tm L, bx, gr, nx⟩ d (runOps P E K X (id + 1) l) (fun v => z = true ∧ X v) op := by
 simp [runOps, stpG, want]
theorem r_g1 (h : tm L t = .s (.bool true)) : runOps P E K X id ((⟨d, some (t, true), op⟩, z) :: l) ⟨tm L, bx, gr, nx⟩ = stp P E id ⟨tm L, bx, gr, nx⟩ d (runOps P E K X (id + 1) l) (fun v => z = true ∧ X v) op := by
 simp [runOps, stpG, want, h]
theorem r_g2 (h : tm L t = .s (.bool false)) : runOps P E K X id ((⟨d, some (t, false), op⟩, z) :: l) ⟨tm L, bx, gr, nx⟩ = stp P E id ⟨tm L, bx, gr, nx⟩ d (runOps P E K X (id + 1) l) (fun v => z = true ∧ X v) op := by
 simp [runOps, stpG, want, h]
theorem r_n1 (h : tm L t = .s (.bool false)) : runOps P E K X id ((⟨d, some (t, true), op⟩, z) :: l) ⟨tm L, bx, gr, nx⟩ = runOps P E K X (id + 1) l (AS.put ⟨tm L, bx, gr, nx⟩ d (.tup [])) := by
 simp [runOps, stpG, want, h]
theorem r_n2 (h : tm L t = .s (.bool true)) : runOps P E K X id ((⟨d, some (t, false), op⟩, z) :: l) ⟨tm L, bx, gr, nx⟩ = runOps P E K X (id + 1) l (AS.put ⟨tm L, bx, gr, nx⟩ d (.tup [])) := by
 simp [runOps, stpG, want, h]
theorem r_n3 {w : Bool} (h : tm L t = .tup []) : runOps P E K X id ((⟨d, some (t, w), op⟩, z) :: l) ⟨tm L, bx, gr, nx⟩ = runOps P E K X (id + 1) l (AS.put ⟨tm L, bx, gr, nx⟩ d (.tup [])) := by
 simp [runOps, stpG, want, h]
end
section
variable {P : Program} {E : Env} {K : AEx → AS → Prop} {nx : Nat} {L : List (Nat × AV)} {bx : Nat → Option (List AV)} {gr : Gr}
theorem a_skip : awp P E .skip K ⟨tm L, bx, gr, nx⟩ = K .normal ⟨tm L, bx, gr, nx⟩ := rfl
theorem a_reg {al : List (AOper × Bool)} : awp P E (.reg al) K ⟨tm L, bx, gr, nx⟩ = runOps P E (fun s => K .normal { s with nx := nx + al.length }) (fun v => K (.pan v) ⟨tm L, bx, gr, nx⟩) nx al ⟨tm L, bx, gr, nx⟩ := rfl
theorem a_seq {x y : ACode} : awp P E (.seq x y) K ⟨tm L, bx, gr, nx⟩ = awp P E x (AEx.seq K (awp P E y K)) ⟨tm L, bx, gr, nx⟩ := rfl
theorem a_cond {c : Operand} {x y : ACode} : awp P E (.cond c x y) K ⟨tm L, bx, gr, nx⟩ = ∃ t, AS.ev ⟨tm L, bx, gr, nx⟩ c = .s (.bool t) ∧ (t = true → awp P E x K ⟨tm L, bx, gr, nx⟩) ∧ (t = false → awp P E y K ⟨tm L, bx, gr, nx⟩) := rfl
theorem a_block {i : Nat} {x : ACode} : awp P E (.block i x) K ⟨tm L, bx, gr, nx⟩ = awp P E x (AEx.blk i K) ⟨tm L, bx, gr, nx⟩ := rfl
theorem a_exit {i : Nat} : awp P E (.exit i) K ⟨tm L, bx, gr, nx⟩ = K (.exit i) ⟨tm L, bx, gr, nx⟩ := rfl
theorem a_ret : awp P E .ret K ⟨tm L, bx, gr, nx⟩ = K .ret ⟨tm L, bx, gr, nx⟩ := rfl
theorem f_ret {rs : List RV} {K : AOut → Prop} : fin P rs K .ret ⟨tm L, bx, gr, nx⟩ = ∃ v, outOf P ⟨tm L, bx, gr, nx⟩ rs = some v ∧ K (.ret v) := rfl
theorem f_normal {rs : List RV} {K : AOut → Prop} : fin P rs K .normal ⟨tm L, bx, gr, nx⟩ = ∃ v, outOf P ⟨tm L, bx, gr, nx⟩ rs = some v ∧ K (.ret v) := rfl
theorem f_pan {rs : List RV} {K : AOut → Prop} {v : AV} {s : AS} : fin P rs K (.pan v) s = K (.pan v) := rfl
theorem q_normal {N : AS → Prop} {s : AS} : AEx.seq K N .normal s = N s := rfl
theorem q_exit {N : AS → Prop} {s : AS} {i : Nat} : AEx.seq K N (.exit i) s = K (.exit i) s := rfl
theorem q_ret {N : AS → Prop} {s : AS} : AEx.seq K N .ret s = K .ret s := rfl
theorem q_pan {N : AS → Prop} {s : AS} {v : AV} : AEx.seq K N (.pan v) s = K (.pan v) s := rfl
theorem k_hit {s : AS} {i : Nat} : AEx.blk i K (.exit i) s = K .normal s := if_pos rfl
theorem k_miss {s : AS} {i j : Nat} (h : i ≠ j) : AEx.blk j K (.exit i) s = K (.exit i) s := if_neg h
theorem k_normal {s : AS} {i : Nat} : AEx.blk i K .normal s = K .normal s := rfl
theorem k_ret {s : AS} {i : Nat} : AEx.blk i K .ret s = K .ret s := rfl
theorem k_pan {s : AS} {i : Nat} {v : AV} : AEx.blk i K (.pan v) s = K (.pan v) s := rfl
end
def subC (nx : Nat) (ρ : Nat → Option Nat) : AV → AV → Prop
 | .any, _ => True
 | .s x, y => y = .s x
 | .row xs, y => y = .row xs
 | .elt cs o, y => y = .elt cs o
 | .ref k, .ref j => k < nx ∧ ρ k = some j
 | .ref k, .s (.slice none 0 0) => k < nx ∧ ρ k = none
 | .ptr b o, .ptr c o' => b < nx ∧ ρ b = some c ∧ o = o'
 | _, _ => False
def subs (nx : Nat) (ρ : Nat → Option Nat) : List AV → List AV → Prop
 | [], [] => True
 | a :: la, b :: bs => subC nx ρ a b ∧ subs nx ρ la bs
 | _, _ => False
def subT (nx : Nat) (ρ : Nat → Option Nat) : AV → AV → Prop
 | .agg cs, .agg ds => subs nx ρ cs ds
 | .fn f xs ys, .fn g us vs => f = g ∧ subs nx ρ xs us ∧ subs nx ρ ys vs
 | a, b => subC nx ρ a b
def tsub (nx : Nat) (ρ : Nat → Option Nat) (s : AS) : List (Nat × AV) → Prop
 | [] => True
 | p :: l => subT nx ρ p.2 (s.t p.1) ∧ tsub nx ρ s l
def bsub (nx : Nat) (ρ : Nat → Option Nat) (s : AS) : List (Nat × Option (List AV)) → Prop
 | [] => True
 | (b, some cs) :: l => (b < nx ∧ ∃ c ds, ρ b = some c ∧ s.bx c = some ds ∧ subs nx ρ cs ds) ∧ bsub nx ρ s l
 | (_, none) :: l => bsub nx ρ s l
def gsub (nx : Nat) (ρ : Nat → Option Nat) (s : AS) : List (Nat × Option GR) → Prop
 | [] => True
 | (k, some r) :: l => (k < nx ∧ (match ρ k with | some j => s.gr j = some r | none => r.xs = [])) ∧ gsub nx ρ s l
 | (_, none) :: l => gsub nx ρ s l
def onto : List (Nat × Nat) → Nat → Option Nat
 | [], _ => none
 | (a, b) :: l, i => if i = a then some b else onto l i
theorem onto_inj {l : List (Nat × Nat)} (h : (l.map (·.2)).Nodup) : ∀ {x y k : Nat}, onto l x = some k → onto l y = some k → x = y := by
 induction l with
 | nil => intro x y k h; cases h
 | cons p l ih =>
  obtain ⟨a, b⟩ := p
  simp only [List.map_cons, List.nodup_cons] at h
  have mem : ∀ {l : List (Nat × Nat)} {x k : Nat}, onto l x = some k → k ∈ l.map (·.2) := fun {l} => by
   induction l with
   | nil => intro x k h; cases h
   | cons p l ih =>
    intro x k h
    simp only [onto] at h
    split at h
    ·cases h; simp
    ·simp only [List.map_cons]; exact List.mem_cons_of_mem _ (ih h)
  intro x y k hx hy
  simp only [onto] at hx hy
  split at hx <;> split at hy
  ·rename_i p q; rw [p, q]
  ·cases hx; exact absurd (mem hy) h.1
  ·cases hy; exact absurd (mem hx) h.1
  ·exact ih h.2 hx hy
section
variable {c : Cx} {g : Gh} {s : AS} {a : Act} {w : World} {nx : Nat} {ρ : Nat → Option Nat}
def ghOf (g : Gh) (nx : Nat) (ρ : Nat → Option Nat) : Gh :=
 ⟨g.S, fun b => if b < nx then (ρ b).bind g.ι else none, fun k => if k < nx then (match ρ k with | some j => g.τ j | none => some (.slice none 0 0)) else none⟩
theorem subC_rep {x y : AV} {v : Value} (h : Cel g y v) (k : subC nx ρ x y) : Cel (ghOf g nx ρ) x v := by
 unfold subC at k
 split at k
 ·exact .pur (.any h.one)
 ·subst k; cases h with | pur p => exact .pur p
 ·subst k; cases h with | pur p => exact .pur p
 ·subst k
  cases h with
  | elt p => exact .elt p
  | pur p => cases p
 ·cases h with
  | ref e o => exact .ref (by simp [ghOf, k.1, k.2, e]) o
  | pur p => cases p
 ·cases h with | pur p => cases p; exact .ref (by simp [ghOf, k.1, k.2]) rfl
 ·obtain ⟨k1, k2, rfl⟩ := k
  cases h with
  | ptr e => exact .ptr (by simp [ghOf, k1, k2, e])
  | pur p => cases p
 ·exact k.elim
theorem subs_rep : ∀ {xs ys : List AV} {vs : List Value}, All2 (Cel g) ys vs → subs nx ρ xs ys → All2 (Cel (ghOf g nx ρ)) xs vs
 | [], [], _, .nil, _ => .nil
 | x :: xs, y :: ys, _, .cons h r, k => .cons (subC_rep h k.1) (subs_rep r k.2)
theorem subT_rep {x y : AV} {v : Value} (h : Rep g y v) (k : subT nx ρ x y) : Rep (ghOf g nx ρ) x v := by
 unfold subT at k
 split at k
 ·cases h with
  | com cm => cases cm with
   | cel cl => cases cl with | pur p => cases p
   | agg cs => exact .com (.agg (subs_rep cs k))
 ·obtain ⟨rfl, k1, k2⟩ := k
  cases h with
  | com cm => cases cm with
   | cel cl => cases cl with | pur p => cases p
   | fn xs ys => exact .com (.fn (subs_rep xs k1) (subs_rep ys k2))
 ·rename_i hne hne'
  by_cases hx : x = .any
  ·subst hx; exact .any
  ·have hcel : Cel g y v := by
    refine Cel.conv' h (fun cs e => ?_) (fun cs e => ?_) (fun e => ?_) (fun f xs ys e => ?_) <;> subst e <;> cases x <;> simp [subC] at k hx
   exact rep_cel (subC_rep hcel k)
theorem tsub_get {l : List (Nat × AV)} (h : tsub nx ρ s l) (i : Nat) : tm l i = .any ∨ subT nx ρ (tm l i) (s.t i) := by
 induction l with
 | nil => exact .inl rfl
 | cons p l ih =>
  obtain ⟨d, v⟩ := p
  by_cases hi : i = d
  ·subst hi; rw [tm_hit]; exact .inr h.1
  ·rw [tm_miss hi]; exact ih h.2
theorem bsub_get {l : List (Nat × Option (List AV))} (h : bsub nx ρ s l) {b : Nat} {cs : List AV} (hb : bm l b = some cs) : b < nx ∧ ∃ c ds, ρ b = some c ∧ s.bx c = some ds ∧ subs nx ρ cs ds := by
 induction l with
 | nil => cases hb
 | cons p l ih =>
  obtain ⟨d, v⟩ := p
  by_cases hi : b = d
  ·subst hi; rw [bm_hit] at hb; subst hb; exact h.1
  ·rw [bm_miss hi] at hb
   cases v with
   | none => exact ih h hb
   | some q => exact ih h.2 hb
theorem gsub_get {l : List (Nat × Option GR)} (h : gsub nx ρ s l) {k : Nat} {r : GR} (hk : bm l k = some r) : k < nx ∧ (match ρ k with | some j => s.gr j = some r | none => r.xs = []) := by
 induction l with
 | nil => cases hk
 | cons p l ih =>
  obtain ⟨d, v⟩ := p
  by_cases hi : k = d
  ·subst hi; rw [bm_hit] at hk; subst hk; exact h.1
  ·rw [bm_miss hi] at hk
   cases v with
   | none => exact ih h hk
   | some q => exact ih h.2 hk
theorem le_mk {hn : Nat} {L : List (Nat × AV)} {B : List (Nat × Option (List AV))} {G : List (Nat × Option GR)} (m : List (Nat × Nat)) (hm : (m.map (·.2)).Nodup) (hT : tsub nx (onto m) s L) (hB : bsub nx (onto m) s B) (hG : gsub nx (onto m) s G) (hh : ∀ j, j < hn → j < nx ∧ onto m j = some j := by first | (intro j hj; exact absurd hj (Nat.not_lt_zero j)) | decide) : Le hn ⟨tm L, bm B, bm G, nx⟩ s := by
 intro c g a w hcn R
 have hinj : ∀ {x y k : Nat}, onto m x = some k → onto m y = some k → x = y := onto_inj hm
 have own : ∀ x h, Owns ⟨tm L, bm B, bm G, nx⟩ (ghOf g nx (onto m)) x h → ∃ k, onto m x.2 = some k ∧ Owns s g (x.1, k) h := fun x h => by
  obtain ⟨t, i⟩ := x
  cases t with
  | true =>
   rintro ⟨h1, h2⟩
   cases hb : bm B i with
   | none => exact absurd hb h1
   | some cs =>
    obtain ⟨k1, c', ds, k2, k3, _⟩ := bsub_get hB hb
    simp only [ghOf, k1, if_true, k2, Option.bind_some] at h2
    exact ⟨c', k2, by simp [k3], h2⟩
  | false =>
   rintro ⟨⟨r, h1, hl⟩, v, h2, h3⟩
   obtain ⟨k1, k2⟩ := gsub_get hG h1
   simp only [ghOf, k1, if_true] at h2
   split at k2
   ·rename_i j hj
    rw [hj] at h2
    exact ⟨j, hj, ⟨r, k2, hl⟩, v, h2, h3⟩
   ·rename_i hj
    rw [hj] at h2; cases h2; cases h3
 refine ⟨ghOf g nx (onto m), R.size, R.defers, R.keep, R.sle, R.old, R.agr, fun i => ?_, fun b cs hb => ?_, fun k r hk => ?_, fun x y h hx hy => ?_, fun i hi => ?_, fun j h hj => ?_⟩
 ·rcases tsub_get hT i with h | h
  ·show Rep _ (tm L i) _; rw [h]; exact .any
  ·exact subT_rep (R.tmp i) h
 ·obtain ⟨k1, c', ds, k2, k3, k4⟩ := bsub_get hB hb
  obtain ⟨h, vs, T, e, q, hh, hc, hs⟩ := R.box c' ds k3
  exact ⟨h, vs, T, by simp [ghOf, k1, k2, e], q, hh, subs_rep hc k4, hs⟩
 ·obtain ⟨k1, k2⟩ := gsub_get hG hk
  split at k2
  ·rename_i j hj
   obtain ⟨v, e1, e2⟩ := R.row j r k2
   exact ⟨v, by simp [ghOf, k1, hj, e1], e2⟩
  ·rename_i hj
   have hx : r.xs = [] := k2
   refine ⟨.slice none 0 0, by simp [ghOf, k1, hj], ⟨by simp [hx], .inl rfl⟩, fun _ => ⟨[], by rw [hx]; exact World.ownsRow_nil w _ r.e r.sz, by rw [hx]; exact .nil, by simp [Value.ownBlock]⟩, fun _ => by rw [hx]; exact .nil⟩
 ·obtain ⟨k1, p1, q1⟩ := own x h hx
  obtain ⟨k2, p2, q2⟩ := own y h hy
  have := R.inj _ _ h q1 q2
  obtain ⟨x1, x2⟩ := x
  obtain ⟨y1, y2⟩ := y
  simp only [Prod.mk.injEq] at this ⊢
  exact ⟨this.1, hinj p1 (by rw [this.2]; exact p2)⟩
 ·have : ¬ i < nx := Nat.not_lt.2 hi
  exact ⟨by simp [ghOf, this], by simp [ghOf, this]⟩
 ·have hjl : j < c.gs.length := (List.getElem?_eq_some_iff.1 hj).1
  obtain ⟨k1, k2⟩ := hh j (by omega)
  simp [ghOf, k1, k2, R.hand j h hj]
end
theorem loop {P : Program} {E : Env} {K : AEx → AS → Prop} {x : ACode} {st : AS} {ι : Type} (S : ι → AS) (μ : ι → Nat) (i0 : ι) (h0 : Le E.hn (S i0) st) (h : ∀ i, awp P E x (AEx.seq K fun s' => ∃ j, Le E.hn (S j) s' ∧ μ j < μ i) (S i)) : awp P E (.loop x) K st := ⟨ι, S, μ, i0, h0, h⟩
section
variable {P : Program} {t : TypeId} {x y : Operand} {i j : Int} {k : IntKind} {p q : Bool} {s u : ByteArray}
theorem v_add : scv P (.bin .add t) [x, y] [.int .i64 i, .int .i64 j] = some (.s (.int .i64 (IntKind.i64.wrap (i + j)))) := rfl
theorem v_sub : scv P (.bin .sub t) [x, y] [.int .i64 i, .int .i64 j] = some (.s (.int .i64 (IntKind.i64.wrap (i - j)))) := rfl
theorem v_mul : scv P (.bin .mul t) [x, y] [.int .i64 i, .int .i64 j] = some (.s (.int .i64 (IntKind.i64.wrap (i * j)))) := rfl
theorem v_lss : scv P (.bin .lss t) [x, y] [.int .i64 i, .int .i64 j] = some (.s (.bool (decide (i < j)))) := rfl
theorem v_leq : scv P (.bin .leq t) [x, y] [.int .i64 i, .int .i64 j] = some (.s (.bool (decide (i ≤ j)))) := rfl
theorem v_gtr : scv P (.bin .gtr t) [x, y] [.int .i64 i, .int .i64 j] = some (.s (.bool (decide (i > j)))) := rfl
theorem v_geq : scv P (.bin .geq t) [x, y] [.int .i64 i, .int .i64 j] = some (.s (.bool (decide (i ≥ j)))) := rfl
theorem v_eql : scv P (.bin .eql t) [x, y] [.int .i64 i, .int .i64 j] = some (.s (.bool (i == j))) := rfl
theorem v_neq : scv P (.bin .neq t) [x, y] [.int .i64 i, .int .i64 j] = some (.s (.bool (i != j))) := rfl
theorem b_leq : scv P (.bin .leq t) [x, y] [.int .u8 i, .int .u8 j] = some (.s (.bool (decide (i ≤ j)))) := rfl
theorem b_geq : scv P (.bin .geq t) [x, y] [.int .u8 i, .int .u8 j] = some (.s (.bool (decide (i ≥ j)))) := rfl
theorem b_eql : scv P (.bin .eql t) [x, y] [.int .u8 i, .int .u8 j] = some (.s (.bool (i == j))) := rfl
theorem b_neq : scv P (.bin .neq t) [x, y] [.int .u8 i, .int .u8 j] = some (.s (.bool (i != j))) := rfl
theorem eq_toList : (s.toList == u.toList) = decide (s = u) := by
 have e : ∀ {s u : ByteArray}, s.toList = u.toList → s = u := fun {s u} h => by
  have h' : s.data.toList = u.data.toList := by
   have k : ∀ b : ByteArray, b.toList = b.data.toList := fun b => ByteArray.toList_eq b
   rw [← k, ← k]; exact h
  cases s; cases u; simp only [ByteArray.mk.injEq]; exact Array.toList_inj.1 h'
 by_cases h : s = u
 ·subst h; simp
 ·simp [h]; exact fun k => h (e k)
theorem s_add (h : s.size + u.size ≤ 9223372036854775807) : scv P (.bin .add t) [x, y] [.string s, .string u] = some (.s (.string (s ++ u))) := by
 have h' : ¬ ((s.size + u.size : Nat) : Int) > IntKind.i64.max := by rw [IntKind.max_i64]; omega
 have : pureRun P (Sc.sem P (.bin .add t) [x, y] [.string s, .string u]) = (if ((s.size + u.size : Nat) : Int) > IntKind.i64.max then none else some (.string (s ++ u))) := by
  show pureRun P (Op.stringOp .add s u) = _
  unfold Op.stringOp
  dsimp only
  split <;> rfl
 unfold scv
 rw [this, if_neg h']
 rfl
theorem s_eql : scv P (.bin .eql t) [x, y] [.string s, .string u] = some (.s (.bool (decide (s = u)))) := by rw [← eq_toList]; rfl
theorem s_neq : scv P (.bin .neq t) [x, y] [.string s, .string u] = some (.s (.bool (!decide (s = u)))) := by rw [← eq_toList]; rfl
theorem u_not : scv P (.un .not) [x] [.bool p] = some (.s (.bool !p)) := rfl
theorem u_neg : scv P (.un .neg) [x] [.int .i64 i] = some (.s (.int .i64 (IntKind.i64.wrap (0 - i)))) := rfl
theorem v_quo (h : j ≠ 0) : scv P (.bin .quo t) [x, y] [.int .i64 i, .int .i64 j] = some (.s (.int .i64 (IntKind.i64.wrap (Int.tdiv i j)))) := by
 have : pureRun P (Sc.sem P (.bin .quo t) [x, y] [.int .i64 i, .int .i64 j]) = some (.int .i64 (IntKind.i64.wrap (Int.tdiv i j))) := by
  show pureRun P (Op.intDiv .quo .i64 i j) = _
  unfold Op.intDiv
  rw [if_neg h]; rfl
 unfold scv; rw [this]; rfl
theorem v_rem (h : j ≠ 0) : scv P (.bin .rem t) [x, y] [.int .i64 i, .int .i64 j] = some (.s (.int .i64 (Int.tmod i j))) := by
 have : pureRun P (Sc.sem P (.bin .rem t) [x, y] [.int .i64 i, .int .i64 j]) = some (.int .i64 (Int.tmod i j)) := by
  show pureRun P (Op.intDiv .rem .i64 i j) = _
  unfold Op.intDiv
  rw [if_neg h]; rfl
 unfold scv; rw [this]; rfl
theorem pureRun_bind {α β : Type} (P : Program) : ∀ (s : Sem α) (f : α → Sem β), pureRun P (s >>= f) = (pureRun P s).bind fun a => pureRun P (f a) := fun s f => by
 show pureRun P (s.bind f) = _
 induction s <;> simp_all [Sem.bind, pureRun]
theorem pureRun_pure {α : Type} (P : Program) (a : α) : pureRun P (pure a : Sem α) = some a := rfl
theorem pureRun_map {α β : Type} (P : Program) (s : Sem α) (f : α → β) : pureRun P (f <$> s) = (pureRun P s).map f := by
 rw [map_eq_pure_bind, pureRun_bind]
 cases pureRun P s <;> rfl
theorem pureRun_underlying (P : Program) (t : TypeId) : pureRun P (underlying t) = P.underlying t := by
 unfold underlying
 rw [pureRun_bind, show pureRun P program = some P from rfl, Option.bind_some]
 cases P.underlying t <;> rfl
theorem v_cv {a b : TypeId} {d : TypeDesc} {k' : IntKind} (h1 : P.underlying a = some d) (h2 : P.underlying b = some (.int k')) : scv P (.cv a b) [x] [.int k i] = some (.s (.int k' (k'.wrap i))) := by
 have : pureRun P (Sc.sem P (.cv a b) [x] [.int k i]) = some (.int k' (k'.wrap i)) := by
  show pureRun P (convert a b (.int k i)) = _
  unfold convert
  simp only [pureRun_bind, pureRun_underlying, h1, h2, Option.bind_some]
  rfl
 unfold scv; rw [this]; rfl
theorem v_ix {n : Nat} {b : UInt8} (ht : P.underlying t = some .string) (hb : s.data.toList[n]? = some b) : scv P (.ix t) [x, y] [.string s, .int k (.ofNat n)] = some (.s (.int .u8 (.ofNat b.toNat))) := by
 have : pureRun P (Sc.sem P (.ix t) [x, y] [.string s, .int k (.ofNat n)]) = some (.int .u8 (.ofNat b.toNat)) := by
  show pureRun P (Instr.index t (.string s) (.int k (.ofNat n))) = _
  unfold Instr.index
  rw [pureRun_bind, show pureRun P (asIntOf (.int k (.ofNat n))) = some (k, Int.ofNat n) from rfl, Option.bind_some]
  dsimp only
  rw [pureRun_bind, pureRun_underlying, ht, Option.bind_some]
  have hlt : n < s.size := by
   have := (List.getElem?_eq_some_iff.1 hb).1
   rw [Array.length_toList] at this
   exact this
  have hg : (if (0 : Int) ≤ Int.ofNat n then s[(Int.ofNat n).toNat]? else none) = some b := by
   rw [if_pos (by simp)]
   show s[n]? = some b
   rw [ByteArray.getElem?_lt' s _ hlt]
   congr 1
   have h2 := (List.getElem?_eq_some_iff.1 hb).2
   rw [← h2]; rfl
  simp only [hg]
  rfl
 unfold scv; rw [this]; rfl
theorem v_sl2 {k' : IntKind} {z : Operand} {l h : Nat} (ht : P.underlying t = some .string) (h1 : l ≤ h) (h2 : h ≤ s.size) : scv P (.sl t true true) [x, y, z] [.string s, .int k (.ofNat l), .int k' (.ofNat h)] = some (.s (.string (s.extract l h))) := by
 have hb : ∀ (k : IntKind) (n m : Nat) c, n ≤ m → pureRun P (Instr.sliceBound (.int k (.ofNat n)) m c) = some n := fun k n m c hnm => by
  unfold Instr.sliceBound
  rw [pureRun_bind, show pureRun P (asIntOf (.int k (.ofNat n))) = some (k, Int.ofNat n) from rfl, Option.bind_some]
  dsimp only
  rw [if_pos ⟨by simp, by simpa using hnm⟩]
  rfl
 have : pureRun P (Sc.sem P (.sl t true true) [x, y, z] [.string s, .int k (.ofNat l), .int k' (.ofNat h)]) = some (.string (s.extract l h)) := by
  show pureRun P (Instr.sliceAt t (.string s) (some (.int k (.ofNat l))) (some (.int k' (.ofNat h))) none) = _
  unfold Instr.sliceAt
  rw [pureRun_bind, pureRun_underlying, ht, Option.bind_some]
  show pureRun P (Instr.slice t (.string s) (some (.int k (.ofNat l))) (some (.int k' (.ofNat h))) none) = _
  unfold Instr.slice
  rw [pureRun_bind, pureRun_underlying, ht, Option.bind_some]
  simp only [Option.isSome_none, Bool.false_eq_true, if_false]
  have e1 : ∀ c, pureRun P (Instr.sliceBound (.int k' (h : Int)) s.size c) = some h := fun c => hb k' h s.size c h2
  have e2 : ∀ c, pureRun P (Instr.sliceBound (.int k (l : Int)) h c) = some l := fun c => hb k l h c h1
  simp [pureRun_bind, pureRun_pure, pureRun_map, Instr.sliceBounds, e1, e2]
 unfold scv; rw [this]; rfl
theorem v_sl1 {l : Nat} (ht : P.underlying t = some .string) (h2 : l ≤ s.size) : scv P (.sl t true false) [x, y] [.string s, .int k (.ofNat l)] = some (.s (.string (s.extract l s.size))) := by
 have hb : ∀ (k : IntKind) (n m : Nat) c, n ≤ m → pureRun P (Instr.sliceBound (.int k (.ofNat n)) m c) = some n := fun k n m c hnm => by
  unfold Instr.sliceBound
  rw [pureRun_bind, show pureRun P (asIntOf (.int k (.ofNat n))) = some (k, Int.ofNat n) from rfl, Option.bind_some]
  dsimp only
  rw [if_pos ⟨by simp, by simpa using hnm⟩]
  rfl
 have : pureRun P (Sc.sem P (.sl t true false) [x, y] [.string s, .int k (.ofNat l)]) = some (.string (s.extract l s.size)) := by
  show pureRun P (Instr.sliceAt t (.string s) (some (.int k (.ofNat l))) none none) = _
  unfold Instr.sliceAt
  rw [pureRun_bind, pureRun_underlying, ht, Option.bind_some]
  show pureRun P (Instr.slice t (.string s) (some (.int k (.ofNat l))) none none) = _
  unfold Instr.slice
  rw [pureRun_bind, pureRun_underlying, ht, Option.bind_some]
  simp only [Option.isSome_none, Bool.false_eq_true, if_false]
  have e2 : ∀ c, pureRun P (Instr.sliceBound (.int k (l : Int)) s.size c) = some l := fun c => hb k l s.size c h2
  simp [pureRun_bind, pureRun_pure, pureRun_map, Instr.sliceBounds, e2]
 unfold scv; rw [this]; rfl
theorem v_len {u : TypeId} {xs : List Operand} (ht : P.underlying t = some .string) : scv P (.bi .len [t] u) xs [.string s] = some (.s (.int .i64 s.size)) := by
 have : pureRun P (Sc.sem P (.bi .len [t] u) xs [.string s]) = some (.int .i64 s.size) := by
  show pureRun P (Builtin.len_ #[t] u #[.string s]) = _
  unfold Builtin.len_
  show pureRun P (do match ← underlying t, Value.string s with | _, _ => _) = _
  rw [pureRun_bind, pureRun_underlying, ht, Option.bind_some]
  rfl
 unfold scv; rw [this]; rfl
end
abbrev Spec := List AV → AOut → Prop
def Con (P : Program) (J : JW) (f : FuncId) (T : Spec) : Prop := ∀ args out, T args out → OkAt P J f args out
def sps : List (FuncId × Spec) → FuncId → List AV → AOut → Prop
 | [], _, _, _ => False
 | (f, T) :: l, g, args, out => if g = f then T args out else sps l g args out
def env (l : List (FuncId × Spec)) : Env := ⟨sps l, 0⟩
def envH (n : Nat) (l : List (FuncId × Spec)) : Env := ⟨sps l, n⟩
theorem ok_nil {P : Program} {J : JW} : Ok P J (env []) := fun _ _ _ h => h.elim
theorem ok_cons {P : Program} {J : JW} {f : FuncId} {T : Spec} {l : List (FuncId × Spec)} (h : Con P J f T) (k : Ok P J (env l)) (hf : fnOk P f = true := by kernel_rfl) : Ok P J (env ((f, T) :: l)) := fun g args out he => by
 replace he : sps ((f, T) :: l) g args out := he
 simp only [sps] at he
 split at he
 ·rename_i e; subst e; exact ⟨hf, h args out he⟩
 ·exact k g args out he
theorem ok_h {P : Program} {J : JW} {l : List (FuncId × Spec)} {n : Nat} (h : Ok P J (env l)) : Ok P J (envH n l) := h
theorem con {P : Program} {E : Env} {J : JW} (hE : Ok P J E) (hJ : JOk J) {f : FuncId} {fn : Func} {code : Code} {ac : ACode} {vs : List RV} {T : Spec} (hf : P.funcs[f]? = some fn) (hb : fn.body = some code)
  (hc : comp P fn.ntmps code = some ac) (hr : rvs P fn.results.toList = some vs) (h : ∀ args out, T args out → headT args = none ∧ args.length ≤ fn.ntmps ∧ awp P E ac (fin P vs (· = out)) (start args)) (h0 : E.hn = 0 := by rfl) (hs : ac.strip = ac := by kernel_rfl) : Con P J f T :=
 fun args out ho => by
  obtain ⟨h1, h2, h3⟩ := h args out ho
  unfold OkAt
  rw [h1]
  exact fn_sound hE h0 hJ hf hb (by rw [hs]; exact hc) hr h2 h3
theorem conF {P : Program} {E : Env} {J : JW} (ac' : ACode) (hE : Ok P J E) (hJ : JOk J) {f : FuncId} {fn : Func} {code : Code} {ac : ACode} {vs : List RV} {T : Spec} (hf : P.funcs[f]? = some fn) (hb : fn.body = some code)
  (hc : comp P fn.ntmps code = some ac) (hr : rvs P fn.results.toList = some vs) (hs : ac'.strip = ac) (h : ∀ args out, T args out → headT args = none ∧ args.length ≤ fn.ntmps ∧ awp P E ac' (fin P vs (· = out)) (start args)) (h0 : E.hn = 0 := by rfl) : Con P J f T :=
 fun args out ho => by
  obtain ⟨h1, h2, h3⟩ := h args out ho
  unfold OkAt
  rw [h1]
  exact fn_sound hE h0 hJ hf hb (by rw [hs]; exact hc) hr h2 h3
theorem conH {P : Program} {E : Env} {J : JW} (hE : Ok P J E) (hJ : JOk J) {f : FuncId} {fn : Func} {code : Code} {ac : ACode} {vs : List RV} {T : Spec} (hf : P.funcs[f]? = some fn) (hb : fn.body = some code)
  (hc : comp P fn.ntmps code = some ac) (hr : rvs P fn.results.toList = some vs) (h : ∀ args out, T args out → ∃ css al, args = .tup (css.map .agg) :: al ∧ css.length = E.hn ∧ al.length ≤ fn.ntmps ∧ awp P E ac (finH P vs E.hn (· = out)) (startH css al)) (h0 : 0 < E.hn := by decide) (hs : ac.strip = ac := by kernel_rfl) : Con P J f T :=
 fun args out ho => by
  obtain ⟨css, al, rfl, h1, h2, h3⟩ := h args out ho
  show ∀ S w hs vs, J w → Agr S w → Handed J.lo S w hs (css.map .agg) → All2 (Rep (gH S hs)) al vs → Calls P f vs.toArray w (PostH S w hs out)
  exact fn_soundH hE hJ hf hb (by rw [hs]; exact hc) hr h1 h0 h2 h3
end Go.Proofs.YtnjmilelifmfpaaGreatDoor.Ev

namespace Go.Proofs.YtnjmilelifmfpaaGreatDoor.Ev
open Go Go.RowKit
set_option linter.unusedSimpArgs false
set_option linter.unusedVariables false
theorem env_sp {l : List (FuncId × Spec)} : (env l).sp = sps l := rfl
theorem env_hn {l : List (FuncId × Spec)} : (env l).hn = 0 := rfl
theorem envH_sp {l : List (FuncId × Spec)} {n : Nat} : (envH n l).sp = sps l := rfl
theorem envH_hn {l : List (FuncId × Spec)} {n : Nat} : (envH n l).hn = n := rfl
theorem env_hit {f : FuncId} {T : Spec} {l : List (FuncId × Spec)} {args : List AV} {out : AOut} : sps ((f, T) :: l) f args out = T args out := if_pos rfl
theorem env_miss {f g : FuncId} {T : Spec} {l : List (FuncId × Spec)} {args : List AV} {out : AOut} (h : g ≠ f) : sps ((f, T) :: l) g args out = sps l g args out := if_neg h
def tms : Nat → List AV → List (Nat × AV)
 | _, [] => []
 | k, x :: l => (k, x) :: tms (k + 1) l
def bms : Nat → List (List AV) → List (Nat × Option (List AV))
 | _, [] => []
 | k, x :: l => (k, some x) :: bms (k + 1) l
theorem tms_is : ∀ (l : List AV) (k i : Nat), tm (tms k l) (k + i) = (l[i]?).getD .any
 | [], _, _ => by simp [tms, tm]
 | x :: l, k, 0 => by simp [tms, tm]
 | x :: l, k, i + 1 => by
  have := tms_is l (k + 1) i
  simp only [tms, tm]
  rw [if_neg (by omega), show k + (i + 1) = k + 1 + i by omega, this]
  simp
theorem bms_is : ∀ (l : List (List AV)) (k i : Nat), bm (bms k l) (k + i) = l[i]?
 | [], _, _ => by simp [bms, bm]
 | x :: l, k, 0 => by simp [bms, bm]
 | x :: l, k, i + 1 => by
  have := bms_is l (k + 1) i
  simp only [bms, bm]
  rw [if_neg (by omega), show k + (i + 1) = k + 1 + i by omega, this]
  simp
theorem startL {l : List AV} : start l = ⟨tm (tms 0 l), bm [], bm [], 0⟩ := by
 unfold start
 congr
 funext i
 have := tms_is l 0 i
 rw [Nat.zero_add] at this
 exact this.symm
theorem startHL {css : List (List AV)} {l : List AV} : startH css l = ⟨tm (tms 0 l), bm (bms 0 css), bm [], css.length⟩ := by
 unfold startH
 congr
 ·funext i
  have := tms_is l 0 i
  rw [Nat.zero_add] at this
  exact this.symm
 ·funext i
  have := bms_is css 0 i
  rw [Nat.zero_add] at this
  exact this.symm
theorem pan0 {bx : Nat → Option (List AV)} {v : AV} : panV 0 bx v = some v := rfl
theorem pan1 {bx : Nat → Option (List AV)} {v : AV} : panV 1 bx v = (bx 0).map fun cs => .tup [v, .agg (cs.map pcellN)] := by
 simp only [panV, handsN]; cases bx 0 <;> rfl
theorem pan2 {bx : Nat → Option (List AV)} {v : AV} : panV 2 bx v = (bx 0).bind fun cs => (bx 1).map fun ds => .tup [v, .agg (cs.map pcellN), .agg (ds.map pcellN)] := by
 simp only [panV, handsN]; cases bx 0 <;> cases bx 1 <;> rfl
theorem hG1 {gr : Gr} {bx : Nat → Option (List AV)} : handsG gr bx 1 0 = (bx 0).map fun cs => [.agg (cs.map (pcell gr))] := by
 simp only [handsG]; cases bx 0 <;> rfl
theorem hG2 {gr : Gr} {bx : Nat → Option (List AV)} : handsG gr bx 2 0 = (bx 0).bind fun cs => (bx 1).map fun ds => [.agg (cs.map (pcell gr)), .agg (ds.map (pcell gr))] := by
 simp only [handsG]; cases bx 0 <;> cases bx 1 <;> rfl
theorem fH_ret {P : Program} {nx hn : Nat} {L : List (Nat × AV)} {bx : Nat → Option (List AV)} {gr : Gr} {rs : List RV} {K : AOut → Prop} : finH P rs hn K .ret ⟨tm L, bx, gr, nx⟩ = ∃ v l, outOf P ⟨tm L, bx, gr, nx⟩ rs = some v ∧ handsG gr bx hn 0 = some l ∧ K (.ret (.tup (v :: l))) := rfl
theorem fH_normal {P : Program} {nx hn : Nat} {L : List (Nat × AV)} {bx : Nat → Option (List AV)} {gr : Gr} {rs : List RV} {K : AOut → Prop} : finH P rs hn K .normal ⟨tm L, bx, gr, nx⟩ = ∃ v l, outOf P ⟨tm L, bx, gr, nx⟩ rs = some v ∧ handsG gr bx hn 0 = some l ∧ K (.ret (.tup (v :: l))) := rfl
theorem fH_pan {P : Program} {hn : Nat} {s : AS} {rs : List RV} {K : AOut → Prop} {p : AV} : finH P rs hn K (.pan p) s = K (.pan p) := rfl
theorem tgt_func {f : FuncId} : tgt (.s (.func (.func f) #[] #[])) = some (f, [], []) := rfl
theorem tgt_fn {f : FuncId} {xs ys : List AV} : tgt (.fn f xs ys) = some (f, xs, ys) := rfl
theorem ev_f {st : AS} {f : FuncId} : st.ev (.func f) = .s (.func (.func f) #[] #[]) := rfl
section
variable {K : AV → List (List AV) → Prop} {X : AV → List (List AV) → Prop} {v : AV} {c d : List AV} {h k : Nat} {o : AOut}
theorem onH0 : AOut.onH [] K X (.ret v) = K v [] := rfl
theorem onX0 : AOut.onH [] K X (.pan v) = X v [] := rfl
theorem onH1 : AOut.onH [h] K X (.ret (.tup [v, .agg c])) = K v [c] := propext ⟨fun ⟨u, css, e, l, p⟩ => by
 cases css with
 | nil => simp at l
 | cons x css =>
  cases css with
  | nil => simp at e; obtain ⟨rfl, rfl⟩ := e; exact p
  | cons y css => simp at l, fun p => ⟨v, [c], rfl, rfl, p⟩⟩
theorem onX1 : AOut.onH [h] K X (.pan (.tup [v, .agg c])) = X v [c] := propext ⟨fun ⟨u, css, e, l, p⟩ => by
 cases css with
 | nil => simp at l
 | cons x css =>
  cases css with
  | nil => simp at e; obtain ⟨rfl, rfl⟩ := e; exact p
  | cons y css => simp at l, fun p => ⟨v, [c], rfl, rfl, p⟩⟩
theorem onH2 : AOut.onH [h, k] K X (.ret (.tup [v, .agg c, .agg d])) = K v [c, d] := propext ⟨fun ⟨u, css, e, l, p⟩ => by
 cases css with
 | nil => simp at l
 | cons x css =>
  cases css with
  | nil => simp at l
  | cons y css =>
   cases css with
   | nil => simp at e; obtain ⟨rfl, rfl, rfl⟩ := e; exact p
   | cons z css => simp at l, fun p => ⟨v, [c, d], rfl, rfl, p⟩⟩
theorem onX2 : AOut.onH [h, k] K X (.pan (.tup [v, .agg c, .agg d])) = X v [c, d] := propext ⟨fun ⟨u, css, e, l, p⟩ => by
 cases css with
 | nil => simp at l
 | cons x css =>
  cases css with
  | nil => simp at l
  | cons y css =>
   cases css with
   | nil => simp at e; obtain ⟨rfl, rfl, rfl⟩ := e; exact p
   | cons z css => simp at l, fun p => ⟨v, [c, d], rfl, rfl, p⟩⟩
end
theorem ex2 {α β : Type} {a : α} {b : β} {p : α → β → Prop} : (∃ x y, a = x ∧ b = y ∧ p x y) = p a b := propext ⟨fun ⟨_, _, h1, h2, h⟩ => by subst h1 h2; exact h, fun h => ⟨a, b, rfl, rfl, h⟩⟩
theorem ex3 {α β γ : Type} {a : α} {p : α → β → γ → Prop} : (∃ x y z, a = x ∧ p x y z) = ∃ y z, p a y z := propext ⟨fun ⟨_, y, z, h1, h⟩ => by subst h1; exact ⟨y, z, h⟩, fun ⟨y, z, h⟩ => ⟨a, y, z, rfl, h⟩⟩
theorem ex4 {α β γ : Type} {a : α} {b : β} {c : γ} {p : α → β → γ → Prop} : (∃ x y z, (a, b) = (x, y) ∧ c = z ∧ p x y z) = p a b c := propext ⟨fun ⟨_, _, _, h1, h2, h⟩ => by cases h1; subst h2; exact h, fun h => ⟨a, b, c, rfl, rfl, h⟩⟩
theorem tf : (true == false) = false := rfl
theorem ft : (false == true) = false := rfl
theorem idx_nat {k : IntKind} {n : Nat} : idxOf (.s (.int k (n : Int))) = some n := by simp [idxOf]
theorem v_max {P : Program} {xs : List Operand} {i j : Int} {t : TypeId} : scv P (.bi .max [t, t] t) xs [.int .i64 i, .int .i64 j] = some (.s (.int .i64 (if j > i then j else i))) := rfl
theorem v_min {P : Program} {xs : List Operand} {i j : Int} {t : TypeId} : scv P (.bi .min [t, t] t) xs [.int .i64 i, .int .i64 j] = some (.s (.int .i64 (if j < i then j else i))) := rfl
theorem count {P : Program} {E : Env} {K : AEx → AS → Prop} {x : ACode} {st : AS} (N : Nat) (S : Nat → AS) (h0 : Le E.hn (S 0) st) (h : ∀ i, i ≤ N → awp P E x (AEx.seq K fun s' => i < N ∧ Le E.hn (S (i + 1)) s') (S i)) : awp P E (.loop x) K st :=
 loop (ι := { i : Nat // i ≤ N }) (fun i => S i.1) (fun i => N - i.1) ⟨0, Nat.zero_le _⟩ h0 fun ⟨i, hi⟩ =>
  awp_mono x (seq_mono (fun _ _ q => q) fun s' ⟨q1, q2⟩ => ⟨⟨i + 1, q1⟩, q2, by dsimp only; omega⟩) (h i hi)
theorem countI {P : Program} {E : Env} {K : AEx → AS → Prop} {x : ACode} {st : AS} {α : Type} (N : Nat) (I : Nat → α → Prop) (S : Nat → α → AS) (a0 : α) (hI : I 0 a0) (h0 : Le E.hn (S 0 a0) st)
  (h : ∀ i a, i ≤ N → I i a → awp P E x (AEx.seq K fun s' => i < N ∧ ∃ a', I (i + 1) a' ∧ Le E.hn (S (i + 1) a') s') (S i a)) : awp P E (.loop x) K st :=
 loop (ι := { i : Nat × α // i.1 ≤ N ∧ I i.1 i.2 }) (fun i => S i.1.1 i.1.2) (fun i => N - i.1.1) ⟨(0, a0), Nat.zero_le _, hI⟩ h0 fun ⟨⟨i, a⟩, hi, ha⟩ =>
  awp_mono x (seq_mono (fun _ _ q => q) fun s' ⟨q1, a', q2, q3⟩ => ⟨⟨(i + 1, a'), q1, q2⟩, q3, by dsimp only; omega⟩) (h i a hi ha)
theorem lm {hn nx : Nat} {s : AS} {L : List (Nat × AV)} {B : List (Nat × Option (List AV))} {G : List (Nat × Option GR)} (m : List (Nat × Nat)) (hm : (m.map (·.2)).Nodup := by decide)
  (hT : tsub nx (onto m) s L := by simp [tsub, subT, subs, subC, onto, tm]) (hB : bsub nx (onto m) s B := by simp [bsub, subs, subC, onto, bm]) (hG : gsub nx (onto m) s G := by simp [gsub, onto, bm])
  (hh : ∀ j, j < hn → j < nx ∧ onto m j = some j := by first | (intro j hj; exact absurd hj (Nat.not_lt_zero j)) | decide) : Le hn ⟨tm L, bm B, bm G, nx⟩ s := le_mk m hm hT hB hG hh
theorem a_fgt {P : Program} {E : Env} {K : AEx → AS → Prop} {st : AS} : awp P E .fgt K st = ∃ s', Le E.hn s' st ∧ K .normal s' := rfl
def pcellB (k : Bool) (gr : Gr) (x : AV) : AV := match k with | true => pcellK gr x | false => pcell gr x
section
variable {k : Bool} {gr : Gr} {cs : List AV} {i : Int} {kd : IntKind} {s : ByteArray} {p : Bool} {xs : List (List AV)} {n : Nat}
theorem sB_agg : stripB k gr (.agg cs) = .agg (cs.map (pcellB k gr)) := by cases k <;> rfl
theorem sB_int : stripB k gr (.s (.int kd i)) = .s (.int kd i) := by cases k <;> rfl
theorem sB_str : stripB k gr (.s (.string s)) = .s (.string s) := by cases k <;> rfl
theorem sB_bool : stripB k gr (.s (.bool p)) = .s (.bool p) := by cases k <;> rfl
theorem sB_row : stripB k gr (.row xs) = .row xs := by cases k <;> rfl
theorem sB_ref : stripB k gr (.ref n) = strip gr (.ref n) := by cases k <;> rfl
theorem sB_nil : stripB k gr (.s (.slice none 0 0)) = if k then .s (.slice none 0 0) else .row [] := by cases k <;> rfl
theorem sB_fn {f : FuncId} {us vs : List AV} : stripB k gr (.fn f us vs) = strip gr (.fn f us vs) := by cases k <;> rfl
theorem sB_ptr {o : Nat} : stripB k gr (.ptr n o) = .any := by cases k <;> rfl
theorem pB_int : pcellB k gr (.s (.int kd i)) = .s (.int kd i) := by cases k <;> rfl
theorem pB_str : pcellB k gr (.s (.string s)) = .s (.string s) := by cases k <;> rfl
theorem pB_bool : pcellB k gr (.s (.bool p)) = .s (.bool p) := by cases k <;> rfl
theorem pB_row : pcellB k gr (.row xs) = .row xs := by cases k <;> rfl
theorem pB_ref : pcellB k gr (.ref n) = pcell gr (.ref n) := by cases k <;> rfl
theorem pB_nil : pcellB k gr (.s (.slice none 0 0)) = if k then .s (.slice none 0 0) else .row [] := by cases k <;> rfl
end
theorem go {p q : Prop} (h : q) (e : p = q := by
 simp (config := { decide := true }) only [sB_agg, sB_int, sB_str, sB_bool, sB_row, sB_ref, sB_nil, sB_fn, sB_ptr, pB_int, pB_str, pB_bool, pB_row, pB_ref, pB_nil, a_fgt, a_skip, a_reg, a_seq, a_cond, a_block, a_exit, a_ret, f_ret, f_normal, f_pan, q_normal, q_exit, q_ret, q_pan, k_hit, k_miss, k_normal, k_ret, k_pan, r_nil, r_op, r_g1, r_g2, r_n1, r_n2, r_n3, stp, pv, startL, startHL, tms, bms, env_sp, env_hn, envH_sp, envH_hn, idx_nat, v_max, v_min, pan0, pan1, pan2, hG1, hG2, fH_ret, fH_normal, fH_pan, tgt_func, tgt_fn, ev_f, onH0, onX0, onH1, onX1, onH2, onX2, callP, conts, argsH, nub, boxesOf, boxC, hstrip, hcell, ix, setBx, cells1, isCell, pcellN, Option.bind_some, List.filter_nil, List.filter_cons, List.flatten_cons, List.flatten_nil,  put_some, put_none, upd_bm, shut_bm, shut_no, l_s, l_agg, l_row, l_nil, l_t0, l_ts, l_ta, l_tr, tm_hit, tm_miss, bm_hit, bm_miss, ev_t, ev_I, ev_U8, ev_B, ev_S, ev_Nil, v_add, v_sub, v_mul, v_lss, v_leq, v_gtr, v_geq, v_eql, v_neq, b_leq, b_geq, b_eql, b_neq, s_eql, s_neq, u_not, u_neg, v_quo, v_rem,
  a, b, a0, b0, ag, bg, scs, sc, cs1, cut, rowOf, roOf, idxOf, cellsA, put1, fillA, elemsOf, strip, pcell, refs, refC, growOf, killT, here, outOf, getRs, getR, okc, AOut.on, env_hit, env_miss, GR.shut,
  List.map_cons, List.map_nil, List.flatMap_cons, List.flatMap_nil, List.append_nil, List.nil_append, List.cons_append, List.all_cons, List.all_nil, List.drop_zero, List.drop_succ_cons, List.take_succ_cons, List.take_zero, List.take_nil, List.drop_nil, List.getElem?_cons_zero, List.getElem?_cons_succ, Option.map_some, Option.map_none, Option.isSome_some, Bool.and_true, Bool.true_and, Bool.and_eq_true,
  Option.some.injEq, exists_eq_left', exists_eq_left, ex2, ex3, ex4, tf, ft, exists_eq_right, if_true, if_false, ite_true, ite_false, Bool.false_eq_true, eq_self_iff_true, AV.s.injEq, Value.bool.injEq, AOut.ret.injEq, List.length_cons, List.length_nil, Nat.zero_add, Nat.add_zero, Nat.reduceAdd, Nat.reduceEqDiff, Nat.reduceLeDiff, not_false_eq_true, ne_eq, beq_self_eq_true, Bool.true_eq_false, Bool.not_true, Bool.not_false, and_true, true_and, and_self, exists_prop, Nat.succ_ne_zero, Nat.reduceLT, Int.reduceNeg, Int.natCast_nonneg, Int.toNat_natCast, reduceCtorEq, imp_self, decide_true, decide_false, decide_eq_true_eq, decide_eq_false_iff_not, List.mem_cons, List.not_mem_nil, or_false, false_imp_iff, true_imp_iff, forall_const, implies_true]
 rfl) : p := e ▸ h
theorem call {T : Spec} {args : Bool → List AV} {o : AOut} {p : AOut → Prop} (h : T (args false) o) (k : p o) : ∃ b out, T (args b) out ∧ p out := ⟨false, o, h, k⟩
theorem both {p q A B : Prop} (h1 : p → A) (h2 : q → B) : (p → A) ∧ (q → B) := ⟨h1, h2⟩
def ins : Nat → ACode → ACode
 | 0, c => .seq .fgt c
 | n + 1, .seq a b => .seq a (ins n b)
 | _, c => c
theorem joinG {P : Program} {E : Env} {K : AEx → AS → Prop} {X : AV → Prop} {b : ACode} {id n : Nat} {l : List (AOper × Bool)} {st : AS} (S0 : AS) (h1 : awp P E b K S0) (h2 : runOps P E (fun s => Le E.hn S0 { s with nx := n }) X id l st) :
  runOps P E (fun s => awp P E (.seq .fgt b) K { s with nx := n }) X id l st := runOps_mono (fun s hle => ⟨S0, hle, h1⟩) (fun _ h => h) h2
theorem seqS {P : Program} {E : Env} {K : AEx → AS → Prop} {a b : ACode} {st : AS} (S0 : AS) (h1 : awp P E b K S0) (h2 : awp P E a (AEx.seq K fun s => Le E.hn S0 s) st) : awp P E (.seq a (.seq .fgt b)) K st :=
 awp_mono a (seq_mono (fun _ _ h => h) fun s hle => ⟨S0, hle, h1⟩) h2
theorem seqS2 {P : Program} {E : Env} {K : AEx → AS → Prop} {a a' b : ACode} {st : AS} (S0 : AS) (h1 : awp P E b K S0) (h2 : awp P E a (AEx.seq K fun s => awp P E a' (AEx.seq K fun s => Le E.hn S0 s) s) st) : awp P E (.seq a (.seq a' (.seq .fgt b))) K st :=
 awp_mono a (seq_mono (fun _ _ h => h) fun s h => seqS S0 h1 h) h2
theorem spl {P : Program} {E : Env} {K : AS → Prop} {X : AV → Prop} {id nx t : Nat} {d : Option Nat} {op : AOp} {z w b : Bool} {l : List (AOper × Bool)} {L : List (Nat × AV)} {bx : Nat → Option (List AV)} {gr : Gr} (h : tm L t = .s (.bool b))
  (h1 : b = true → runOps P E K X id ((⟨d, some (t, w), op⟩, z) :: l) ⟨tm L, bx, gr, nx⟩) (h2 : b = false → runOps P E K X id ((⟨d, some (t, w), op⟩, z) :: l) ⟨tm L, bx, gr, nx⟩) : runOps P E K X id ((⟨d, some (t, w), op⟩, z) :: l) ⟨tm L, bx, gr, nx⟩ := by
 cases b with
 | true => exact h1 rfl
 | false => exact h2 rfl
end Go.Proofs.YtnjmilelifmfpaaGreatDoor.Ev

namespace Go.Proofs.YtnjmilelifmfpaaGreatDoor.Q
open Go.RowKit Go.Proofs.YtnjmilelifmfpaaGreatDoorW.PrintWords Go.Proofs.YtnjmilelifmfpaaGreatDoorW.PrintLast Go.Proofs.YtnjmilelifmfpaaGreatDoorW.PrintMore
attribute [local go_sem] max2_int min2_int max_two min_two max_three min_three max_four min_four
set_option linter.unusedVariables false
set_option linter.unusedSimpArgs false



def errW : Option Int → Value
 | none => .nilIface
 | some c => .iface 0 (.int .i64 c)
theorem errW_none : errW none = .nilIface := rfl
theorem errW_some (c : Int) : errW (some c) = .iface 0 (.int .i64 c) := rfl

theorem info24 : (Tryz.prog.info? 24).map (fun i => (i.zero, i.size, i.bytes)) = some (some (.agg #[(.int .i64 0), (.int .i64 0), (.string ⟨#[]⟩), (.slice none 0 0)]), 4, 56) := by kernel_rfl
structure S24 where
 f0 : Int
 f1 : Int
 f2 : ByteArray
 f3 : (List S24)
def z24 : S24 := ⟨(0 : Int), (0 : Int), (⟨#[]⟩ : ByteArray), ([] : List S24)⟩
def F24 (d : Kd S24) : Kd S24 := Kd.iso (Kd.pair (Kd.int .i64) (Kd.pair (Kd.int .i64) (Kd.pair Kd.string (Kd.slice 24 d)))) (fun x : S24 => (x.f0, x.f1, x.f2, x.f3))
theorem mono24 : Kd.Mono F24 := Kd.mono_iso _ (Kd.mono_pair (Kd.mono_const _) (Kd.mono_pair (Kd.mono_const _) (Kd.mono_pair (Kd.mono_const _) (Kd.mono_slice 24 Kd.mono_id))))
theorem sub24 : Kd.Sub F24 [24] := Kd.sub_iso _ (Kd.sub_pair (Kd.sub_const _ (by decide)) (Kd.sub_pair (Kd.sub_const _ (by decide)) (Kd.sub_pair (Kd.sub_const _ (by decide)) (Kd.sub_slice 24 (by decide) Kd.sub_id))))
theorem sz24 : ∀ n, (Kd.upto F24 4 [24] n).sz = 4 := Kd.upto_sz (fun _ => rfl)
def k24 : Kd S24 := Kd.fix F24 4 [24] sz24 (Kd.upto_E sub24)
theorem k24_open {w : World} {x : S24} {cs : List Value} (h : k24.K w x cs) : ∃ A3 c3, cs = [.int .i64 x.f0, .int .i64 x.f1, .string x.f2, .slice A3 x.f3.length c3] ∧ x.f3.length ≤ c3 ∧ k24.C w A3 x.f3.length x.f3 := by
 obtain ⟨n, h⟩ := h
 cases n with
 | zero => exact h.elim
 | succ n =>
  obtain ⟨_, _, rfl, rfl, ⟨_, _, rfl, rfl, ⟨_, _, rfl, rfl, ⟨A3, c3, rfl, l3, g3⟩⟩⟩⟩ := h
  exact ⟨A3, c3, rfl, l3, Kd.fix_C g3⟩
theorem k24_mk (w : World) (x : S24) {A3 : Option Addr} {c3 : Nat} (l3 : x.f3.length ≤ c3) (g3 : k24.C w A3 x.f3.length x.f3) : k24.K w x [.int .i64 x.f0, .int .i64 x.f1, .string x.f2, .slice A3 x.f3.length c3] := by
 obtain ⟨n3, q3⟩ := Kd.fix_C_back mono24 g3
 have r3 := Kd.upto_C_le mono24 sz24 (show n3 ≤ n3 by omega) q3
 exact ⟨n3 + 1, ⟨[.int .i64 x.f0], [.int .i64 x.f1, .string x.f2, .slice A3 x.f3.length c3], rfl, rfl, ⟨[.int .i64 x.f1], [.string x.f2, .slice A3 x.f3.length c3], rfl, rfl, ⟨[.string x.f2], [.slice A3 x.f3.length c3], rfl, rfl, ⟨A3, c3, rfl, l3, r3⟩⟩⟩⟩⟩
theorem k24_openF {W : World} {ok : Nat → Prop} {x : S24} {cs : List Value} (h : Kd.FK k24 W ok x cs) : ∃ A3 c3, cs = [.int .i64 x.f0, .int .i64 x.f1, .string x.f2, .slice A3 x.f3.length c3] ∧ x.f3.length ≤ c3 ∧ Kd.F k24 W ok A3 x.f3.length x.f3 := by
 obtain ⟨A3, c3, rfl, l3, _⟩ := k24_open (Kd.FK_now h)
 exact ⟨A3, c3, rfl, l3, (fun W' hW => by obtain ⟨A3_, c3_, he, l3_, g3_⟩ := k24_open (h W' hW); injection (Option.some.inj (show some (Value.slice A3 x.f3.length c3) = some (Value.slice A3_ x.f3.length c3_) from congrArg (fun l => l[3]?) he)) with ha_ _ _; rw [ha_]; exact g3_)⟩
theorem k24_mkF (W : World) (ok : Nat → Prop) (x : S24) {A3 : Option Addr} {c3 : Nat} (l3 : x.f3.length ≤ c3) (g3 : Kd.F k24 W ok A3 x.f3.length x.f3) : Kd.FK k24 W ok x [.int .i64 x.f0, .int .i64 x.f1, .string x.f2, .slice A3 x.f3.length c3] := fun W2 hW => k24_mk W2 x l3 (g3 W2 hW)
def rd_T24 (xs : List S24) (i : Int) : S24 := xs.getD i.toNat z24
theorem at_T24 {w : World} {A : Option Addr} {n : Nat} {xs : List S24} (h : Kd.C k24 w A n xs) (i : Int) (h0 : 0 ≤ i) (h1 : i < n) : ∃ ad A3 c3, A = some ad ∧ w.cell? (ad.add (i.toNat * 4)) = some (.int .i64 (rd_T24 xs i).f0) ∧ w.cell? ⟨(ad.add (i.toNat * 4)).block, (ad.add (i.toNat * 4)).off + 1, none⟩ = some (.int .i64 (rd_T24 xs i).f1) ∧ w.cell? ⟨(ad.add (i.toNat * 4)).block, (ad.add (i.toNat * 4)).off + 2, none⟩ = some (.string (rd_T24 xs i).f2) ∧ w.cell? ⟨(ad.add (i.toNat * 4)).block, (ad.add (i.toNat * 4)).off + 3, none⟩ = some (.slice A3 (rd_T24 xs i).f3.length c3) ∧ (rd_T24 xs i).f3.length ≤ c3 ∧ k24.C w A3 (rd_T24 xs i).f3.length (rd_T24 xs i).f3 := by
 obtain ⟨ad, c, e, _, hK, hc0⟩ := Kd.C_get h z24 i h0 h1
 have hc : ∀ j u, c[j]? = some u → w.cell? (ad.add (i.toNat * 4 + j)) = some u := hc0
 obtain ⟨A3, c3, rfl, l3, g3⟩ := k24_open hK
 exact ⟨ad, A3, c3, e, hc 0 _ rfl, by rw [← add_field _ _ 1 (by omega)]; exact hc 1 _ rfl, by rw [← add_field _ _ 2 (by omega)]; exact hc 2 _ rfl, by rw [← add_field _ _ 3 (by omega)]; exact hc 3 _ rfl, l3, g3⟩

structure S63 where
 f0 : Int
 f1 : ByteArray
 f2 : Int
 f3 : Int
def z63 : S63 := ⟨(0 : Int), (⟨#[]⟩ : ByteArray), (0 : Int), (0 : Int)⟩
def k63 : Kd S63 := Kd.iso (Kd.pair (Kd.int .i64) (Kd.pair Kd.string (Kd.pair (Kd.int .i64) (Kd.int .i64)))) (fun x : S63 => (x.f0, x.f1, x.f2, x.f3))
theorem k63_open {w : World} {x : S63} {cs : List Value} (h : k63.K w x cs) : cs = [.int .i64 x.f0, .string x.f1, .int .i64 x.f2, .int .i64 x.f3] := by
 obtain ⟨_, _, rfl, rfl, ⟨_, _, rfl, rfl, ⟨_, _, rfl, rfl, rfl⟩⟩⟩ := h
 exact rfl
theorem k63_mkM (w : World) (base : Nat) (ok : Nat → Prop) (x : S63)  : k63.M w base ok x [.int .i64 x.f0, .string x.f1, .int .i64 x.f2, .int .i64 x.f3] := ⟨[.int .i64 x.f0], [.string x.f1, .int .i64 x.f2, .int .i64 x.f3], rfl, rfl, ⟨[.string x.f1], [.int .i64 x.f2, .int .i64 x.f3], rfl, rfl, ⟨[.int .i64 x.f2], [.int .i64 x.f3], rfl, rfl, rfl⟩⟩⟩
def rd_T63 (xs : List S63) (i : Int) : S63 := xs.getD i.toNat z63
theorem at_T63 {w : World} {A : Option Addr} {n : Nat} {xs : List S63} (h : Kd.C k63 w A n xs) (i : Int) (h0 : 0 ≤ i) (h1 : i < n) : ∃ ad , A = some ad ∧ w.cell? (ad.add (i.toNat * 4)) = some (.int .i64 (rd_T63 xs i).f0) ∧ w.cell? ⟨(ad.add (i.toNat * 4)).block, (ad.add (i.toNat * 4)).off + 1, none⟩ = some (.string (rd_T63 xs i).f1) ∧ w.cell? ⟨(ad.add (i.toNat * 4)).block, (ad.add (i.toNat * 4)).off + 2, none⟩ = some (.int .i64 (rd_T63 xs i).f2) ∧ w.cell? ⟨(ad.add (i.toNat * 4)).block, (ad.add (i.toNat * 4)).off + 3, none⟩ = some (.int .i64 (rd_T63 xs i).f3) := by
 obtain ⟨ad, c, e, _, hK, hc0⟩ := Kd.C_get h z63 i h0 h1
 have hc : ∀ j u, c[j]? = some u → w.cell? (ad.add (i.toNat * 4 + j)) = some u := hc0
 obtain rfl := k63_open hK
 exact ⟨ad, e, hc 0 _ rfl, by rw [← add_field _ _ 1 (by omega)]; exact hc 1 _ rfl, by rw [← add_field _ _ 2 (by omega)]; exact hc 2 _ rfl, by rw [← add_field _ _ 3 (by omega)]; exact hc 3 _ rfl⟩

structure S43 where
 f0 : Int
 f1 : ByteArray
 f2 : Int
 f3 : Int
 f4 : (List S43)
def F43 (d : Kd S43) : Kd S43 := Kd.iso (Kd.pair (Kd.int .i64) (Kd.pair Kd.string (Kd.pair (Kd.int .i64) (Kd.pair (Kd.int .i64) (Kd.slice 43 d))))) (fun x : S43 => (x.f0, x.f1, x.f2, x.f3, x.f4))
theorem sub43 : Kd.Sub F43 [43] := Kd.sub_iso _ (Kd.sub_pair (Kd.sub_const _ (by decide)) (Kd.sub_pair (Kd.sub_const _ (by decide)) (Kd.sub_pair (Kd.sub_const _ (by decide)) (Kd.sub_pair (Kd.sub_const _ (by decide)) (Kd.sub_slice 43 (by decide) Kd.sub_id)))))
theorem sz43 : ∀ n, (Kd.upto F43 5 [43] n).sz = 5 := Kd.upto_sz (fun _ => rfl)
def k43 : Kd S43 := Kd.fix F43 5 [43] sz43 (Kd.upto_E sub43)
structure S113 where
 f0 : ByteArray
 f1 : Int
def k113 : Kd S113 := Kd.iso (Kd.pair Kd.string (Kd.int .i64)) (fun x : S113 => (x.f0, x.f1))
end Go.Proofs.YtnjmilelifmfpaaGreatDoor.Q

/- Plain Lean: the tokens of a text, as a function on its bytes. No program in sight. -/
namespace Go.Proofs.YtnjmilelifmfpaaGreatDoor.HLex

def lower (c : UInt8) : Bool := decide (97 ≤ c.toNat) && decide (c.toNat ≤ 122)
def upper (c : UInt8) : Bool := decide (65 ≤ c.toNat) && decide (c.toNat ≤ 90)
def digit (c : UInt8) : Bool := decide (48 ≤ c.toNat) && decide (c.toNat ≤ 57)
def wordly (c : UInt8) : Bool := lower c || upper c || digit c
def blank (c : UInt8) : Bool := c == 32 || c == 10 || c == 9

def words : List (List UInt8) := [[108, 101, 116], [108, 101, 116, 114, 101, 99], [105, 110], [99, 97, 115, 101], [111, 102]]
def isWord (l : List UInt8) : Bool := words.contains l

def signs : List (List UInt8) := [[45, 62], [61, 61], [92], [46], [40], [41], [61], [123], [125], [124], [43], [45], [42], [47], [60]]

def num (l : List UInt8) : Nat := l.foldl (fun n c => 10 * n + (c.toNat - 48)) 0

structure Tok where
 kind : Nat
 text : List UInt8
 n : Nat
 pos : Nat
deriving DecidableEq, Repr

def named (w : List UInt8) : Except Nat (Nat × Nat) :=
 if (w.head?.map digit).getD false then
  if w.any (fun c => decide (57 < c.toNat)) then .error 10
  else if 18 < w.length ∨ 1 < w.length ∧ w.head? = some 48 then .error 11
  else .ok (3, num w)
 else if 16 < w.length then .error 11
 else if isWord w then .ok (4, 0)
 else if (w.head?.map upper).getD false then .ok (2, 0)
 else .ok (1, 0)

def first (l : List UInt8) : Except Nat (Nat × List UInt8 × Nat) :=
 let w := l.takeWhile wordly
 if w = [] then
  match signs.find? (fun s => s.isPrefixOf l) with
  | some s => .ok (5, s, 0)
  | none => .error 10
 else match named w with
  | .ok (k, n) => .ok (k, w, n)
  | .error e => .error e

def lexFrom : Nat → Nat → List UInt8 → Except (Nat × Nat) (List Tok)
 | 0, _, _ => .ok []
 | f + 1, pos, l =>
  let r := l.dropWhile blank
  let p := pos + (l.length - r.length)
  if r = [] then .ok []
  else match first r with
   | .error e => .error (p, e)
   | .ok (k, t, n) => match lexFrom f (p + t.length) (r.drop t.length) with
    | .ok ts => .ok (⟨k, t, n, p⟩ :: ts)
    | .error e => .error e

def lex (l : List UInt8) : Except (Nat × Nat) (List Tok) := lexFrom (l.length + 1) 0 l

end Go.Proofs.YtnjmilelifmfpaaGreatDoor.HLex
