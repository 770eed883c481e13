-- Written for this claim: several texts in one.
import Derived.Test.YtnjmilelifmfpaaGreatDoorKHeadTells0
import Derived.KernelRfl
import Derived.Test.YtnjmilelifmfpaaGreatDoorProg
import Derived.Below
import Derived.Deep.Draws
import Derived.Deep.AppendLies
import Derived.Maps.AppendAt
import Derived.OwnWalk
import Derived.Laws.BytesArg
import Derived.Laws.MakeOwn
import Derived.Laws.OwnMore
import Derived.Deep.OwnRows
import Derived.Tactics
import Derived.Lib.ConvBytes
import Derived.Laws.Slices
import Derived.WalkKit
import Derived.RowKit3
import Derived.Deep.LoopGhost
import Derived.Deep.QuietTactic
import Derived.BigQuiet
import Derived.WideLaws
import Derived.Deep.DeepCutAuto
import Derived.Deep.CutBlock
import Derived.Deep.RegionHeld3
import Derived.Laws.Rows
import Derived.Lib.AppendStr
import Derived.ArgAppend
import Derived.Laws.IdiomCopy
import Derived.OrdersHeld
import Derived.Laws.BitsLemmas
import Derived.RowKit
import Derived.Test.YtnjmilelifmfpaaGreatDoorYHeadTellsWords
import Derived.Test.YtnjmilelifmfpaaGreatDoorYHeadTellsLast
import Derived.Test.YtnjmilelifmfpaaGreatDoorYHeadTellsTab
import Derived.Test.YtnjmilelifmfpaaGreatDoorYHeadTellsQPut
import Derived.Test.YtnjmilelifmfpaaGreatDoorYHeadTellsApart
import Derived.Test.YtnjmilelifmfpaaGreatDoorYHeadTellsArr
import Derived.Test.YtnjmilelifmfpaaGreatDoorYHeadTellsZeros
import Derived.Test.YtnjmilelifmfpaaGreatDoorYHeadTellsFoot
import Derived.Test.YtnjmilelifmfpaaGreatDoorYHeadTellsKept
import Derived.Test.YtnjmilelifmfpaaGreatDoorYHeadTellsShare
import Derived.Test.YtnjmilelifmfpaaGreatDoorYHeadTellsN
import Derived.Test.YtnjmilelifmfpaaGreatDoorYHeadTellsRepsOne
import Derived.Test.YtnjmilelifmfpaaGreatDoorYHeadTellsInv
import Derived.Test.YtnjmilelifmfpaaGreatDoorYHeadTellsNEv
import Derived.Test.YtnjmilelifmfpaaGreatDoorYHeadTellsMore
import Derived.Deep.RegionWith
import Derived.Lib.Hide
import Derived.Laws.NewBlocks
import Derived.Laws.Pointers
import Derived.Tactics2
import Derived.Shelf.GgClosure.StringsIndexFunc
import Derived.Laws.RangeString
import Derived.Laws.RangeAny
import Derived.Lib.Atoi
import Derived.Lib.SlTrimSet
import Derived.Shelf.Strings.Trim
import Derived.Shelf.Small.Utf8
import Derived.Shelf.Small.Strs
import Derived.Shelf.Strconv.Atoi
import Derived.Shelf.Strconv.Itoa0
import Derived.Shelf.Strings.Search1
import Derived.Ground.GgwProg
import Derived.Shelf.GgClosure.StringsIndexFuncTop
import Derived.Shelf.Strings.Runes
import Derived.Shelf.Strings.AsciiSet
import Derived.Shelf.Unicode.DecodeSlow
import Derived.Shelf.Slices.Turned
import Derived.Shelf.Strings.SlTrimAscii
import Derived.Outline
import Derived.WalkSmall
set_option linter.unusedSimpArgs false
set_option linter.unusedVariables false
namespace Go.Proofs.YtnjmilelifmfpaaGreatDoor.Ev
open Go Go.RowKit
set_option linter.unusedSimpArgs false
set_option linter.unusedVariables false

def regAl (ops : Array Oper) (draw : Bool) (l : List AOper) : List (AOper × Bool) :=
 let b := befs ops.toList #[]
 l.zipIdx.map fun x => (x.1, if draw then (List.range ops.size).all fun k => decide (k ≤ x.2) || (b.getD k 0).testBit x.2 else true)
def comp (P : Program) (n : Nat) : Code → Option ACode
 | .skip | .label _ => some .skip
 | .region _ ops draw => match cops P ops n ops.toList with
  | some l => let al := regAl ops draw l; if !draw || (ordOk ops al && P.follows .mixedOrders) then some (.reg al) else some .bad
  | none => some .bad
 | .seq a b => match comp P n a, comp P n b with | some x, some y => some (.seq x y) | _, _ => none
 | .cond c a b => match comp P n a, comp P n b with | some x, some y => if oOk c then some (.cond c x y) else none | _, _ => none
 | .block id a => (comp P n a).map (.block id)
 | .loop a => (comp P n a).map .loop
 | .exit id => some (.exit id)
 | .ret => some .ret
 | _ => some .bad
def Le (hn : Nat) (s' s : AS) : Prop := ∀ c g a w, c.gs.length = hn → Rel c (fun i => s.nx ≤ i) g s a w → ∃ g', Rel c (fun i => s'.nx ≤ i) g' s' a w
def AEx.seq (K : AEx → AS → Prop) (N : AS → Prop) : AEx → AS → Prop
 | .normal, s => N s
 | e, s => K e s
def AEx.blk (id : Nat) (K : AEx → AS → Prop) : AEx → AS → Prop
 | .exit i, s => if i = id then K .normal s else K (.exit i) s
 | e, s => K e s
def awp (P : Program) (E : Env) : ACode → (AEx → AS → Prop) → AS → Prop
 | .skip, K, st => K .normal st
 | .reg al, K, st => runOps P E (fun s => K .normal { s with nx := st.nx + al.length }) (fun v => K (.pan v) st) st.nx al st
 | .seq a b, K, st => awp P E a (AEx.seq K (awp P E b K)) st
 | .cond c x y, K, st => ∃ t, st.ev c = .s (.bool t) ∧ (t = true → awp P E x K st) ∧ (t = false → awp P E y K st)
 | .block id c, K, st => awp P E c (AEx.blk id K) st
 | .loop c, K, st => ∃ (ι : Type) (S : ι → AS) (μ : ι → Nat) (i0 : ι), Le E.hn (S i0) st ∧ ∀ i, awp P E c (AEx.seq K fun s' => ∃ j, Le E.hn (S j) s' ∧ μ j < μ i) (S i)
 | .exit id, K, st => K (.exit id) st
 | .ret, K, st => K .ret st
 | .bad, _, _ => False
 | .fgt, K, st => ∃ s', Le E.hn s' st ∧ K .normal s'

def Lift (c : Cx) (K : AEx → AS → Prop) : Exit → Act → World → Prop
 | .normal, a, w => ∃ g st, K .normal st ∧ Rel c (fun i => st.nx ≤ i) g st a w
 | .exit id, a, w => ∃ g st, K (.exit id) st ∧ Rel c (fun i => st.nx ≤ i) g st a w
 | .ret, a, w => ∃ g st, K .ret st ∧ Rel c (fun i => st.nx ≤ i) g st a w
 | .panic ch, a, w => ∃ x p st, ch = [{ v := x, recovered := false }] ∧ K (.pan p) st ∧ PanR c p x w ∧ a.defers = [] ∧ Keep c.w0.heap.size c.gs c.w0 w
 | _, _, _ => False
theorem wp_loop' {P : Program} {c : Code} {Q : Exit → Act → World → Prop} {a : Act} {w : World} {α : Type} (I : α → Act → World → Prop) (μ : α → Nat) (x0 : α) (h₀ : I x0 a w)
  (round : ∀ x a w, I x a w → c.wp P (Exit.then (fun a' w' => ∃ y, I y a' w' ∧ μ y < μ x) Q) a w) : (Code.loop c).wp P Q a w := by
 intro b k cs
 have key : ∀ n x a w, μ x = n → I x a w → ∃ e a' w', Q e a' w' ∧ Arrives P (lone (b.at a (.code c :: .inLoop c :: k)) cs w) b k cs e a' w' := by
  intro n
  induction n using Nat.strongRecOn with
  | _ n ih =>
   intro x a w hn hI
   obtain ⟨e, a₁, w₁, hq, harr⟩ := round x a w hI b (.inLoop c :: k) cs
   cases e with
   | normal =>
    obtain ⟨y, hI₁, hlt⟩ := hq
    obtain ⟨e₂, a₂, w₂, hq₂, harr₂⟩ := ih (μ y) (hn ▸ hlt) y a₁ w₁ rfl hI₁
    exact ⟨e₂, a₂, w₂, hq₂, .of_steps (Steps.trans harr (.one step_inLoop)) harr₂⟩
   | exit id => exact ⟨_, a₁, w₁, hq, .pass (x := .inLoop c) rfl (fun _ _ => .inl (by simp)) harr⟩
   | goto l => exact ⟨_, a₁, w₁, hq, .pass (x := .inLoop c) rfl (fun _ _ => .inl (by simp)) harr⟩
   | ret => exact ⟨_, a₁, w₁, hq, .pass (x := .inLoop c) rfl (fun _ _ => .inl (by simp)) harr⟩
   | panic ch => exact ⟨_, a₁, w₁, hq, .pass (x := .inLoop c) rfl (fun _ _ => .inl (by simp)) harr⟩
   | outgrown => exact ⟨_, a₁, w₁, hq, .pass (x := .inLoop c) rfl (fun _ _ => .inl (by simp)) harr⟩
 obtain ⟨e, a', w', hq, harr⟩ := key _ x0 a w rfl h₀
 exact ⟨e, a', w', hq, .of_steps (.one step_loop) harr⟩
section
variable {P : Program} {E : Env} {J : JW} {c : Cx}
theorem seq_sound (hE : Ok P J E) (hhn : E.hn = c.gs.length ∧ J.lo ≤ c.w0.heap.size ∧ ∀ h ∈ c.gs, J.lo ≤ h) (hJ : ∀ w, Keep c.w0.heap.size c.gs c.w0 w → J w) {ops : Array Oper} {al : List (AOper × Bool)} {nx : Nat} {K : AS → Prop} {X : AV → Prop} {Q : Exit → Act → World → Prop} (hal : al.length = ops.size)
  (hops : ∀ (i : Nat) (x : AOper × Bool), al[i]? = some x → ∃ o, ops[i]? = some o ∧ copG P ops c.n o = some x.1) (hQ : ∀ a w st' g', K st' → Rel c (fun i => nx + ops.size ≤ i) g' st' a w → Q .normal a w)
  (hX : ∀ x p a w, X p → PanR c p x w → a.defers = [] → Keep c.w0.heap.size c.gs c.w0 w → Q (.panic [{ v := x, recovered := false }]) a w) :
  ∀ (l : List (AOper × Bool)) (k : Nat) {st : AS} {g : Gh} {a : Act} {w : World}, (∀ i, al[k + i]? = l[i]?) → k + l.length = ops.size → Rel c (fun i => nx + k ≤ i) g st a w → runOps P E K X (nx + k) l st →
   wpOps P ops Q (List.range' k l.length) a w
 | [], k, st, g, a, w, _, hk, R, h => by
  have : k = ops.size := by simpa using hk
  subst this
  exact hQ a w st g h R
 | (o, z) :: l, k, st, g, a, w, hl, hk, R, h => by
  rw [List.length_cons, List.range'_succ, wpOps_cons]
  have hk0 : al[k]? = some (o, z) := by rw [← Nat.add_zero k, hl 0]; rfl
  obtain ⟨oc, hoc, hcp⟩ := hops k _ hk0
  refine wpOp_mono (fun a' w' hg => ?_) (op_one (Q := Q) (X := X) hE hhn hJ R (Nat.le_refl _) hoc hcp (K := runOps P E K X (nx + k + 1) l) ?_ hX)
  ·obtain ⟨s', hs, g', R'⟩ := hg
   exact seq_sound hE hhn hJ hal hops hQ hX l (k + 1) (fun i => by rw [show k + 1 + i = k + (i + 1) by omega, hl]; rfl) (by simp at hk; omega) (R'.weak fun i hi => ⟨by omega, by omega⟩) (by rw [← Nat.add_assoc]; exact hs)
  ·rcases stpG_iff.1 h with ⟨s1, h1, h2⟩ | ⟨v, h1, h2⟩
   ·exact stpG_iff.2 (.inl ⟨s1, h1, h2⟩)
   ·exact stpG_iff.2 (.inr ⟨v, h1, h2.2⟩)
theorem regAl_get {ops : Array Oper} {draw : Bool} {l : List AOper} {i : Nat} {x : AOper × Bool} (h : (regAl ops draw l)[i]? = some x) : l[i]? = some x.1 := by
 unfold regAl at h
 simp only [List.getElem?_map, List.getElem?_zipIdx, Option.map_eq_some_iff] at h
 obtain ⟨y, ⟨a, ha, rfl⟩, rfl⟩ := h
 simpa using ha
theorem code_sound (hE : Ok P J E) (hhn : E.hn = c.gs.length ∧ J.lo ≤ c.w0.heap.size ∧ ∀ h ∈ c.gs, J.lo ≤ h) (hJ : ∀ w, Keep c.w0.heap.size c.gs c.w0 w → J w) : ∀ (code : Code) {ac : ACode} {K : AEx → AS → Prop} {st : AS} {g : Gh} {a : Act} {w : World}, comp P c.n code = some ac → awp P E ac K st → Rel c (fun i => st.nx ≤ i) g st a w →
  code.wp P (Lift c K) a w
 | .skip, ac, K, st, g, a, w, hc, h, R => by
  simp only [comp, Option.some.injEq] at hc; subst hc
  exact wp_skip ⟨g, st, h, R⟩
 | .label _, ac, K, st, g, a, w, hc, h, R => by
  simp only [comp, Option.some.injEq] at hc; subst hc
  exact wp_label ⟨g, st, h, R⟩
 | .exit id, ac, K, st, g, a, w, hc, h, R => by
  simp only [comp, Option.some.injEq] at hc; subst hc
  exact wp_exit ⟨g, st, h, R⟩
 | .ret, ac, K, st, g, a, w, hc, h, R => by
  simp only [comp, Option.some.injEq] at hc; subst hc
  exact wp_ret ⟨g, st, h, R⟩
 | .seq x y, ac, K, st, g, a, w, hc, h, R => by
  simp only [comp] at hc
  split at hc
  ·rename_i x' y' hx hy
   cases hc
   refine wp_seq (wp_mono (code_sound hE hhn hJ x hx h R) fun e a' w' q => ?_)
   cases e with
   | normal =>
    obtain ⟨g', s', k, R'⟩ := q
    exact code_sound hE hhn hJ y hy k R'
   | exit id => exact q
   | ret => exact q
   | panic ch => exact q
   | goto l => exact q.elim
   | outgrown => exact q.elim
  ·cases hc
 | .cond o x y, ac, K, st, g, a, w, hc, h, R => by
  simp only [comp] at hc
  split at hc
  ·rename_i x' y' hx hy
   split at hc
   ·rename_i ho
    cases hc
    obtain ⟨t, ht, h1, h2⟩ := h
    have e : a.eval o = .bool t := sc_rep (R.ev o ho) (by rw [ht]; rfl)
    exact wp_cond_split e (fun q => code_sound hE hhn hJ x hx (h1 q) R) (fun q => code_sound hE hhn hJ y hy (h2 q) R)
   ·cases hc
  ·cases hc
 | .block id x, ac, K, st, g, a, w, hc, h, R => by
  simp only [comp, Option.map_eq_some_iff] at hc
  obtain ⟨x', hx, rfl⟩ := hc
  refine wp_block (wp_mono (code_sound hE hhn hJ x hx h R) fun e a' w' q => ?_)
  cases e with
  | exit id' =>
   obtain ⟨g', s', k, R'⟩ := q
   simp only [AEx.blk] at k
   simp only [Exit.inBlock]
   split at k
   ·rename_i he; rw [if_pos he]; exact ⟨g', s', k, R'⟩
   ·rename_i he; rw [if_neg he]; exact ⟨g', s', k, R'⟩
  | normal => exact q
  | ret => exact q
  | panic ch => exact q
  | goto l => exact q.elim
  | outgrown => exact q.elim
 | .loop x, ac, K, st, g, a, w, hc, h, R => by
  simp only [comp, Option.map_eq_some_iff] at hc
  obtain ⟨x', hx, rfl⟩ := hc
  obtain ⟨ι, S, μ, i0, hle, hround⟩ := h
  refine wp_loop' (α := ι) (fun i a w => ∃ g, Rel c (fun k => (S i).nx ≤ k) g (S i) a w) μ i0 (hle c g a w hhn.1.symm R) fun i a w hs => ?_
  obtain ⟨g', R'⟩ := hs
  refine wp_mono (code_sound hE hhn hJ x hx (hround i) R') fun e a' w' q => ?_
  cases e with
  | normal =>
   obtain ⟨g'', s', ⟨j, h1, h3⟩, R''⟩ := q
   exact ⟨j, h1 c g'' a' w' hhn.1.symm R'', h3⟩
  | exit id => exact q
  | ret => exact q
  | panic ch => exact q
  | goto l => exact q.elim
  | outgrown => exact q.elim
 | .region id ops draw, ac, K, st, g, a, w, hc, h, R => by
  simp only [comp] at hc
  split at hc
  ·rename_i l hl
   split at hc
   ·rename_i hcond
    cases hc
    obtain ⟨hlen, hget⟩ := cops_get hl
    have hal : (regAl ops draw l).length = ops.size := by simp [regAl, hlen]
    have hops : ∀ (i : Nat) (x : AOper × Bool), (regAl ops draw l)[i]? = some x → ∃ o, ops[i]? = some o ∧ copG P ops c.n o = some x.1 := fun i x hx => by
     obtain ⟨o, h1, h2⟩ := hget i x.1 (regAl_get hx)
     exact ⟨o, by simpa using h1, h2⟩
    have hQ : ∀ a w st' g', (fun s => K .normal { s with nx := st.nx + (regAl ops draw l).length }) st' → Rel c (fun i => st.nx + ops.size ≤ i) g' st' a w → Lift c K .normal a w := fun a w st' g' k R' =>
     ⟨g', _, k, ⟨R'.size, R'.defers, R'.keep, R'.sle, R'.old, R'.agr, R'.tmp, R'.box, R'.row, R'.inj, fun i hi => R'.free i (by rw [← hal]; exact hi), R'.hand⟩⟩
    have hX : ∀ x p a w, (fun v => K (.pan v) st) p → PanR c p x w → a.defers = [] → Keep c.w0.heap.size c.gs c.w0 w → Lift c K (.panic [{ v := x, recovered := false }]) a w := fun x p a w k hp hd hk => ⟨x, p, st, rfl, k, hp, hd, hk⟩
    cases draw with
    | false =>
     have h' := seq_sound hE hhn hJ hal hops hQ hX (regAl ops false l) 0 (fun i => by rw [Nat.zero_add]) (by rw [hal]; omega) (R.weak fun i hi => by omega) (by rw [Nat.add_zero]; exact h)
     rw [hal] at h'
     exact wp_region (by rw [List.range_eq_range']; exact h')
    | true =>
     simp only [Bool.not_true, Bool.false_or, Bool.and_eq_true] at hcond
     have hr := runR_of (P := P) (E := E) (nx := st.nx) (regAl ops true l) 0 st (fun i => by rw [Nat.zero_add]) (by rw [Nat.add_zero]; exact h)
     refine wp_region_any hcond.2 ?_
     have R1 : Rel c (fun i => st.nx ≤ i) g st a { w with drawn := w.drawn + 1 } := R.step (w' := w.drew) ((Below.refl _ _).drew)
     refine any_sound hE hhn hJ hal hops hcond.1 hQ hX ops.size (List.range' 0 (regAl ops true l).length) _ (by simp [hal]) (List.pairwise_lt_range' ..) (by simp) (fun i => ?_) (fun k hk o ho e he hb hin => ?_) (R1.weak fun i hi => ?_) hr ops.size (Nat.le_refl _)
     ·rw [hal, List.mem_range'_1]
      constructor
      ·rintro ⟨_, h⟩; simp at h; exact ⟨h, by simp [h]⟩
      ·rintro ⟨h, _⟩; exact ⟨Nat.zero_le _, by simpa using h⟩
     ·rw [hal, List.mem_range'_1] at hk
      have := (Array.getElem?_eq_some_iff.1 ho).1
      exact hk ⟨Nat.zero_le _, by simpa using this⟩
     ·rcases hi with hi | ⟨k, _, rfl⟩ <;> omega
   ·cases hc; exact h.elim
  ·cases hc; exact h.elim
 | .rangeFunc .., ac, _, _, _, _, _, hc, h, _ => by simp only [comp, Option.some.injEq] at hc; subst hc; exact h.elim
 | .scope _, ac, _, _, _, _, _, hc, h, _ => by simp only [comp, Option.some.injEq] at hc; subst hc; exact h.elim
 | .goto _, ac, _, _, _, _, _, hc, h, _ => by simp only [comp, Option.some.injEq] at hc; subst hc; exact h.elim
 | .refuse _, ac, _, _, _, _, _, hc, h, _ => by simp only [comp, Option.some.injEq] at hc; subst hc; exact h.elim
def ACode.strip : ACode → ACode
 | .seq .fgt b => b.strip
 | .seq a b => .seq a.strip b.strip
 | .cond c x y => .cond c x.strip y.strip
 | .block id c => .block id c.strip
 | .loop c => .loop c.strip
 | c => c
theorem comp_seq {n : Nat} {code : Code} {x y : ACode} (h : comp P n code = some (.seq x y)) : ∃ a b, code = .seq a b ∧ comp P n a = some x ∧ comp P n b = some y := by
 cases code <;> simp only [comp, Option.map_eq_some_iff] at h <;> try (first|(cases h; done) | (obtain ⟨_, _, h⟩ := h; cases h; done))
 case seq a b =>
  split at h
  ·rename_i x' y' h1 h2; cases h; exact ⟨a, b, rfl, h1, h2⟩
  ·cases h
 case region => split at h <;> (try split at h) <;> cases h
 case cond => split at h <;> (try split at h) <;> cases h
theorem comp_cond {n : Nat} {code : Code} {o : Operand} {x y : ACode} (h : comp P n code = some (.cond o x y)) : ∃ a b, code = .cond o a b ∧ comp P n a = some x ∧ comp P n b = some y ∧ oOk o = true := by
 cases code <;> simp only [comp, Option.map_eq_some_iff] at h <;> try (first|(cases h; done) | (obtain ⟨_, _, h⟩ := h; cases h; done))
 case seq a b => split at h <;> cases h
 case region => split at h <;> (try split at h) <;> cases h
 case cond c a b =>
  split at h
  ·rename_i x' y' h1 h2
   split at h
   ·rename_i h3; cases h; exact ⟨a, b, rfl, h1, h2, h3⟩
   ·cases h
  ·cases h
theorem comp_block {n id : Nat} {code : Code} {x : ACode} (h : comp P n code = some (.block id x)) : ∃ a, code = .block id a ∧ comp P n a = some x := by
 cases code <;> simp only [comp, Option.map_eq_some_iff] at h <;> try (first|(cases h; done))
 case seq a b => split at h <;> cases h
 case region => split at h <;> (try split at h) <;> cases h
 case cond => split at h <;> (try split at h) <;> cases h
 case block i a => obtain ⟨x', h1, h2⟩ := h; cases h2; exact ⟨a, rfl, h1⟩
 case loop a => obtain ⟨x', h1, h2⟩ := h; cases h2
theorem comp_loop {n : Nat} {code : Code} {x : ACode} (h : comp P n code = some (.loop x)) : ∃ a, code = .loop a ∧ comp P n a = some x := by
 cases code <;> simp only [comp, Option.map_eq_some_iff] at h <;> try (first|(cases h; done))
 case seq a b => split at h <;> cases h
 case region => split at h <;> (try split at h) <;> cases h
 case cond => split at h <;> (try split at h) <;> cases h
 case block i a => obtain ⟨x', h1, h2⟩ := h; cases h2
 case loop a => obtain ⟨x', h1, h2⟩ := h; cases h2; exact ⟨a, rfl, h1⟩
theorem comp_fgt {n : Nat} {code : Code} (h : comp P n code = some .fgt) : False := by
 cases code <;> simp only [comp, Option.map_eq_some_iff] at h <;> try (first|(cases h; done) | (obtain ⟨_, _, h⟩ := h; cases h; done))
 case seq a b => split at h <;> cases h
 case region => split at h <;> (try split at h) <;> cases h
 case cond => split at h <;> (try split at h) <;> cases h
theorem lift_seq {K : AEx → AS → Prop} {y : Code} {N : AS → Prop} (h : ∀ {st g a w}, N st → Rel c (fun i => st.nx ≤ i) g st a w → y.wp P (Lift c K) a w) : ∀ e a w, Lift c (AEx.seq K N) e a w → Exit.then (fun a w => y.wp P (Lift c K) a w) (Lift c K) e a w := fun e a' w' q => by
 cases e with
 | normal =>
  obtain ⟨g', s', k, R'⟩ := q
  exact h k R'
 | exit id => exact q
 | ret => exact q
 | panic ch => exact q
 | goto l => exact q.elim
 | outgrown => exact q.elim
theorem code_soundF (hE : Ok P J E) (hhn : E.hn = c.gs.length ∧ J.lo ≤ c.w0.heap.size ∧ ∀ h ∈ c.gs, J.lo ≤ h) (hJ : ∀ w, Keep c.w0.heap.size c.gs c.w0 w → J w) : ∀ (ac : ACode) {code : Code} {K : AEx → AS → Prop} {st : AS} {g : Gh} {a : Act} {w : World}, comp P c.n code = some ac.strip → awp P E ac K st → Rel c (fun i => st.nx ≤ i) g st a w →
  code.wp P (Lift c K) a w
 | .skip, code, K, st, g, a, w, hc, h, R => code_sound hE hhn hJ code hc h R
 | .reg al, code, K, st, g, a, w, hc, h, R => code_sound hE hhn hJ code hc h R
 | .exit id, code, K, st, g, a, w, hc, h, R => code_sound hE hhn hJ code hc h R
 | .ret, code, K, st, g, a, w, hc, h, R => code_sound hE hhn hJ code hc h R
 | .bad, code, K, st, g, a, w, hc, h, R => h.elim
 | .fgt, code, K, st, g, a, w, hc, h, R => (comp_fgt hc).elim
 | .cond o x y, code, K, st, g, a, w, hc, h, R => by
  obtain ⟨x', y', rfl, hx, hy, ho⟩ := comp_cond (by simpa only [ACode.strip] using hc)
  obtain ⟨t, ht, h1, h2⟩ := h
  have e : a.eval o = .bool t := sc_rep (R.ev o ho) (by rw [ht]; rfl)
  exact wp_cond_split e (fun q => code_soundF hE hhn hJ x hx (h1 q) R) (fun q => code_soundF hE hhn hJ y hy (h2 q) R)
 | .block id x, code, K, st, g, a, w, hc, h, R => by
  obtain ⟨x', rfl, hx⟩ := comp_block (by simpa only [ACode.strip] using hc)
  refine wp_block (wp_mono (code_soundF hE hhn hJ x hx h R) fun e a' w' q => ?_)
  cases e with
  | exit id' =>
   obtain ⟨g', s', k, R'⟩ := q
   simp only [AEx.blk] at k
   simp only [Exit.inBlock]
   split at k
   ·rename_i he; rw [if_pos he]; exact ⟨g', s', k, R'⟩
   ·rename_i he; rw [if_neg he]; exact ⟨g', s', k, R'⟩
  | normal => exact q
  | ret => exact q
  | panic ch => exact q
  | goto l => exact q.elim
  | outgrown => exact q.elim
 | .loop x, code, K, st, g, a, w, hc, h, R => by
  obtain ⟨x', rfl, hx⟩ := comp_loop (by simpa only [ACode.strip] using hc)
  obtain ⟨ι, S, μ, i0, hle, hround⟩ := h
  refine wp_loop' (α := ι) (fun i a w => ∃ g, Rel c (fun k => (S i).nx ≤ k) g (S i) a w) μ i0 (hle c g a w hhn.1.symm R) fun i a w hs => ?_
  obtain ⟨g', R'⟩ := hs
  refine wp_mono (code_soundF hE hhn hJ x hx (hround i) R') fun e a' w' q => ?_
  cases e with
  | normal =>
   obtain ⟨g'', s', ⟨j, h1, h3⟩, R''⟩ := q
   exact ⟨j, h1 c g'' a' w' hhn.1.symm R'', h3⟩
  | exit id => exact q
  | ret => exact q
  | panic ch => exact q
  | goto l => exact q.elim
  | outgrown => exact q.elim
 | .seq x y, code, K, st, g, a, w, hc, h, R => by
  by_cases hx : x = .fgt
  ·subst hx
   obtain ⟨s', hle, h⟩ := h
   obtain ⟨g', R'⟩ := hle c g a w hhn.1.symm R
   exact code_soundF hE hhn hJ y (by simpa only [ACode.strip] using hc) h R'
  ·have e : (ACode.seq x y).strip = .seq x.strip y.strip := by cases x <;> first|rfl|exact absurd rfl hx
   rw [e] at hc
   obtain ⟨a', b', rfl, h1, h2⟩ := comp_seq hc
   exact wp_seq (wp_mono (code_soundF hE hhn hJ x h1 h R) (lift_seq fun k R' => code_soundF hE hhn hJ y h2 k R'))
end
end Go.Proofs.YtnjmilelifmfpaaGreatDoor.Ev

namespace Go.Proofs.YtnjmilelifmfpaaGreatDoor.Ev
open Go Go.RowKit
set_option linter.unusedSimpArgs false
set_option linter.unusedVariables false

inductive RV where
 | t (t : Nat)
 | c (ag : Bool) (n : Nat) (t : Nat)
def rvOf (P : Program) : ResultVar → Option RV
 | .tmp t => some (.t t)
 | .cell a t => match aggOf P t, szOf P t with | some ag, some n => some (.c ag n a) | _, _ => none
def rvs (P : Program) : List ResultVar → Option (List RV)
 | [] => some []
 | r :: l => match rvOf P r, rvs P l with | some x, some y => some (x :: y) | _, _ => none
def getR (P : Program) (st : AS) : RV → Option AV
 | .t t => some (st.t t)
 | .c ag n t => pv P st.ev st.bx st.gr (.ld ag n (.tmp t))
def okc : AV → Bool
 | .any | .tup _ => false
 | _ => true
def getRs (P : Program) (st : AS) : List RV → Option (List AV)
 | [] => some []
 | r :: l => match getR P st r, getRs P st l with | some x, some y => if okc (strip st.gr x) then some (strip st.gr x :: y) else none | _, _ => none
def outOf (P : Program) (st : AS) (rs : List RV) : Option AV :=
 match getRs P st rs with
 | some [x] => some x
 | some l => some (.tup l)
 | none => none
def refRs (P : Program) (st : AS) : List RV → List Nat
 | [] => []
 | r :: l => (match getR P st r with | some x => refs x | none => []) ++ refRs P st l
def start (args : List AV) : AS := ⟨fun i => (args[i]?).getD .any, fun _ => none, fun _ => none, 0⟩
def fin (P : Program) (rs : List RV) (K : AOut → Prop) : AEx → AS → Prop
 | .normal, s | .ret, s => ∃ v, outOf P s rs = some v ∧ K (.ret v)
 | .pan v, _ => K (.pan v)
 | _, _ => False
section
variable {P : Program} {E : Env} {J : JW} {c : Cx} {fr : Nat → Prop} {g : Gh} {st : AS} {a : Act} {w : World}
theorem start_rep {g : Gh} {args : List AV} {us : List Value} {n : Nat} (ha : All2 (Rep g) args us) (i : Nat) : Rep g ((args[i]?).getD .any) ((us.toArray ++ Array.replicate (n - us.toArray.size) undef).getD i undef) := by
 have hd : (us.toArray ++ Array.replicate (n - us.toArray.size) undef).getD i undef = us[i]?.getD undef := by
  by_cases hi : i < us.length
  ·simp [Array.getElem?_append, hi]
  ·simp [Array.getElem?_append, hi, Array.getElem?_replicate, List.getElem?_eq_none (Nat.le_of_not_lt hi)]
   split <;> rfl
 rw [hd]
 cases hq : args[i]? with
 | none => exact .any
 | some x =>
  obtain ⟨u, hu, rp⟩ := ha.get hq
  rw [hu]; exact rp
def rRun (a : Act) (r : ResultVar) : Sem Value := match r with
 | .tmp t => pure (a.tmps.getD t undef)
 | .cell b t => do loadVar t (← asAddr (a.tmps.getD b undef))
theorem getR_run (R : Rel c fr g st a w) {r : ResultVar} {v : RV} (hr : rvOf P r = some v) {x : AV} (h : getR P st v = some x) : ∃ u, (rRun a r).run P w = .ok u w ∧ Rep g x u := by
 cases r with
 | tmp t =>
  simp only [rvOf, Option.some.injEq] at hr; subst hr
  simp only [getR, Option.some.injEq] at h; subst h
  exact ⟨_, rfl, R.tmp t⟩
 | cell b t =>
  simp only [rvOf] at hr
  split at hr
  ·rename_i ag n ha hs
   cases hr
   obtain ⟨u, hu, rp⟩ := pv_ld (dst := none) (type := 0) (pos := "") (after := #[]) (guard := none) R ha hs (x := .tmp b) rfl h
   refine ⟨u, ?_, rp⟩
   simp only [execOp, Instr.loadAt, Act.eval, Sem.run_bind] at hu
   simp only [rRun, Sem.run_bind]
   generalize a.tmps.getD b undef = q at hu ⊢
   cases q with
   | pointer p =>
    cases p with
    | none => simp [Instr.sureAddr] at hu
    | some p =>
     simp only [Instr.sureAddr, asAddr, Sem.run_pure, Result.andThen_ok] at hu ⊢
     generalize (loadVar t p).run P w = q at hu ⊢
     cases q with
     | ok x w' =>
      simp only [Result.andThen_ok] at hu
      simp only [Sem.run_pure, Result.ok.injEq, Next.value.injEq] at hu
      obtain ⟨rfl, rfl⟩ := hu
      rfl
     | halt e w' => simp at hu
   | _ => simp [Instr.sureAddr] at hu
  ·cases hr
theorem strip_ncom (R : Rel c fr g st a w) {y : AV} {u : Value} (h : Rep g y u) (hs : Shut st.gr (refs y)) (hn : okc (strip st.gr y) = true) : Com (g0 g.S) (strip st.gr y) u := by
 cases h with
 | com cm => exact strip_com R cm hs
 | tup cs => simp [strip, okc] at hn
 | any => simp [strip, pcell, okc] at hn
theorem getRs_run (R : Rel c fr g st a w) : ∀ {rs : List ResultVar} {vs : List RV} {xs : List AV}, rvs P rs = some vs → Shut st.gr (refRs P st vs) → getRs P st vs = some xs → ∃ us : List Value, (rs.mapM (rRun a)).run P w = .ok us w ∧ All2 (Com (g0 g.S)) xs us
 | [], vs, xs, h, _, k => by
  simp only [rvs, Option.some.injEq] at h; subst h
  simp only [getRs, Option.some.injEq] at k; subst k
  exact ⟨[], rfl, .nil⟩
 | r :: rs, vs, xs, h, hs, k => by
  simp only [rvs] at h
  split at h
  ·rename_i v vs' h1 h2
   cases h
   simp only [getRs] at k
   split at k
   ·rename_i x xs' k1 k2
    split at k
    ·rename_i hok
     cases k
     obtain ⟨u, e1, r1⟩ := getR_run R h1 k1
     obtain ⟨us, e2, r2⟩ := getRs_run R h2 (fun k hk => hs k (by simp only [refRs]; exact List.mem_append_right _ hk)) k2
     refine ⟨u :: us, ?_, .cons (strip_ncom R r1 (fun k hk => hs k (by simp only [refRs, k1]; exact List.mem_append_left _ hk)) hok) r2⟩
     rw [List.mapM_cons, Sem.run_bind, e1]
     simp only [Result.andThen_ok]
     rw [Sem.run_bind, e2]
     rfl
    ·cases k
   ·cases k
  ·cases h
theorem results_run (R : Rel c fr g st a w) {fn : Func} {vs : List RV} (h : rvs P fn.results.toList = some vs) (hs : Shut st.gr (refRs P st vs)) {x : AV} (k : outOf P st vs = some x) : ∃ u, (results fn a.tmps).run P w = .ok u w ∧ Rep (g0 g.S) x u := by
 unfold outOf at k
 have go : ∀ xs, getRs P st vs = some xs → ∃ us : List Value, (fn.results.mapM (rRun a)).run P w = .ok us.toArray w ∧ All2 (Com (g0 g.S)) xs us := fun xs hx => by
  obtain ⟨us, e, r⟩ := getRs_run R h hs hx
  refine ⟨us, ?_, r⟩
  have : (fn.results.mapM (rRun a)) = (do let l ← fn.results.toList.mapM (rRun a); pure l.toArray) := by
   rw [← Array.toArray_toList (xs := fn.results), List.mapM_toArray]
   simp
  rw [this, Sem.run_bind, e]
  rfl
 have hres : ∀ us : List Value, (fn.results.mapM (rRun a)).run P w = .ok us.toArray w → (results fn a.tmps).run P w = .ok (if h : us.toArray.size = 1 then us.toArray[0] else .tuple us.toArray) w := fun us e => by
  have : results fn a.tmps = (do let vs ← fn.results.mapM (rRun a); pure (if h : vs.size = 1 then vs[0] else .tuple vs)) := rfl
  rw [this, Sem.run_bind, e]
  rfl
 split at k
 ·rename_i y hy
  cases k
  obtain ⟨us, e, r⟩ := go _ hy
  cases r with
  | cons r1 r2 => cases r2; exact ⟨_, hres _ e, .com r1⟩
 ·rename_i l hne hy
  cases k
  obtain ⟨us, e, r⟩ := go _ hy
  refine ⟨_, hres _ e, ?_⟩
  have hlen : ¬ us.toArray.size = 1 := fun h1 => by
   have : l.length = 1 := by rw [r.length]; simpa using h1
   match l, this with
   | [y], _ => exact hne y rfl
  rw [dif_neg hlen]
  exact .tup r
 ·cases k
theorem stripK_ncom (R : Rel c fr g st a w) {y : AV} {u : Value} (h : Rep g y u) (hs : Shut st.gr (refs y)) (hn : okc (stripK st.gr y) = true) : Com (g0 g.S) (stripK st.gr y) u := by
 cases h with
 | com cm => exact stripK_com R cm hs
 | tup cs => simp [stripK, strip, okc] at hn
 | any => simp [stripK, strip, pcell, okc] at hn
def getRsK (P : Program) (st : AS) : List RV → Option (List AV)
 | [] => some []
 | r :: l => match getR P st r, getRsK P st l with | some x, some y => if okc (stripK st.gr x) then some (stripK st.gr x :: y) else none | _, _ => none
def outOfK (P : Program) (st : AS) (rs : List RV) : Option AV :=
 match getRsK P st rs with
 | some [x] => some x
 | some l => some (.tup l)
 | none => none
theorem getRsK_run (R : Rel c fr g st a w) : ∀ {rs : List ResultVar} {vs : List RV} {xs : List AV}, rvs P rs = some vs → Shut st.gr (refRs P st vs) → getRsK P st vs = some xs → ∃ us : List Value, (rs.mapM (rRun a)).run P w = .ok us w ∧ All2 (Com (g0 g.S)) xs us
 | [], vs, xs, h, _, k => by
  simp only [rvs, Option.some.injEq] at h; subst h
  simp only [getRsK, Option.some.injEq] at k; subst k
  exact ⟨[], rfl, .nil⟩
 | r :: rs, vs, xs, h, hs, k => by
  simp only [rvs] at h
  split at h
  ·rename_i v vs' h1 h2
   cases h
   simp only [getRsK] at k
   split at k
   ·rename_i x xs' k1 k2
    split at k
    ·rename_i hok
     cases k
     obtain ⟨u, e1, r1⟩ := getR_run R h1 k1
     obtain ⟨us, e2, r2⟩ := getRsK_run R h2 (fun k hk => hs k (by simp only [refRs]; exact List.mem_append_right _ hk)) k2
     refine ⟨u :: us, ?_, .cons (stripK_ncom R r1 (fun k hk => hs k (by simp only [refRs, k1]; exact List.mem_append_left _ hk)) hok) r2⟩
     rw [List.mapM_cons, Sem.run_bind, e1]
     simp only [Result.andThen_ok]
     rw [Sem.run_bind, e2]
     rfl
    ·cases k
   ·cases k
  ·cases h
theorem results_runK (R : Rel c fr g st a w) {fn : Func} {vs : List RV} (h : rvs P fn.results.toList = some vs) (hs : Shut st.gr (refRs P st vs)) {x : AV} (k : outOfK P st vs = some x) : ∃ u, (results fn a.tmps).run P w = .ok u w ∧ Rep (g0 g.S) x u := by
 unfold outOfK at k
 have go : ∀ xs, getRsK P st vs = some xs → ∃ us : List Value, (fn.results.mapM (rRun a)).run P w = .ok us.toArray w ∧ All2 (Com (g0 g.S)) xs us := fun xs hx => by
  obtain ⟨us, e, r⟩ := getRsK_run R h hs hx
  refine ⟨us, ?_, r⟩
  have : (fn.results.mapM (rRun a)) = (do let l ← fn.results.toList.mapM (rRun a); pure l.toArray) := by
   rw [← Array.toArray_toList (xs := fn.results), List.mapM_toArray]
   simp
  rw [this, Sem.run_bind, e]
  rfl
 have hres : ∀ us : List Value, (fn.results.mapM (rRun a)).run P w = .ok us.toArray w → (results fn a.tmps).run P w = .ok (if h : us.toArray.size = 1 then us.toArray[0] else .tuple us.toArray) w := fun us e => by
  have : results fn a.tmps = (do let vs ← fn.results.mapM (rRun a); pure (if h : vs.size = 1 then vs[0] else .tuple vs)) := rfl
  rw [this, Sem.run_bind, e]
  rfl
 split at k
 ·rename_i y hy
  cases k
  obtain ⟨us, e, r⟩ := go _ hy
  cases r with
  | cons r1 r2 => cases r2; exact ⟨_, hres _ e, .com r1⟩
 ·rename_i l hne hy
  cases k
  obtain ⟨us, e, r⟩ := go _ hy
  refine ⟨_, hres _ e, ?_⟩
  have hlen : ¬ us.toArray.size = 1 := fun h1 => by
   have : l.length = 1 := by rw [r.length]; simpa using h1
   match l, this with
   | [y], _ => exact hne y rfl
  rw [dif_neg hlen]
  exact .tup r
 ·cases k
theorem pcells_shut {gr : Gr} {ks : List Nat} {cs : List AV} : cs.map (pcell (shut gr ks)) = cs.map (pcell gr) := by rw [show pcell (shut gr ks) = pcell gr from funext fun _ => pcell_shut]
theorem ret_shut {s : AS} {vs : List RV} (ks : List Nat) : (outOf P { s with gr := shut s.gr ks } vs = outOf P s vs ∧ outOfK P { s with gr := shut s.gr ks } vs = outOfK P s vs) ∧ refRs P { s with gr := shut s.gr ks } vs = refRs P s vs := by
 have e1 : ({ s with gr := shut s.gr ks } : AS).ev = s.ev := by funext x; cases x <;> rfl
 have e2 : ∀ v, getR P { s with gr := shut s.gr ks } v = getR P s v := fun v => by
  cases v with
  | t t => rfl
  | c ag n t =>
   simp only [getR, pv, e1]
   cases s.ev (.tmp t) <;> try rfl
   rename_i k sz i o
   simp only [shut]
   by_cases hk : k ∈ ks
   ·simp only [hk, if_true]; cases s.gr k <;> rfl
   ·simp only [hk, if_false]
 have e3 : ∀ l, getRs P { s with gr := shut s.gr ks } l = getRs P s l := fun l => by
  induction l with
  | nil => rfl
  | cons v l ih => simp only [getRs, e2, ih, strip_shut]
 have e4 : ∀ l, getRsK P { s with gr := shut s.gr ks } l = getRsK P s l := fun l => by
  induction l with
  | nil => rfl
  | cons v l ih => simp only [getRsK, e2, ih, stripK_shut]
 refine ⟨⟨by unfold outOf; rw [e3], by unfold outOfK; rw [e4]⟩, ?_⟩
 have : ∀ l, refRs P { s with gr := shut s.gr ks } l = refRs P s l := fun l => by
  induction l with
  | nil => rfl
  | cons v l ih => simp only [refRs, e2, ih]
 exact this vs
def finW (P : Program) (rs : List RV) (K : AOut → Prop) : AEx → AS → Prop
 | .normal, s | .ret, s => ∃ v, (outOf P s rs = some v ∨ outOfK P s rs = some v) ∧ K (.ret v)
 | .pan v, _ => K (.pan v)
 | _, _ => False
theorem runOps_mono {K K' : AS → Prop} {X X' : AV → Prop} (hk : ∀ s, K s → K' s) (hx : ∀ v, X v → X' v) : ∀ {l : List (AOper × Bool)} {id : Nat} {st : AS}, runOps P E K X id l st → runOps P E K' X' id l st
 | [], _, _, h => hk _ h
 | (o, z) :: l, _, _, h => by
  rcases stpG_iff.1 h with ⟨s1, h1, h2⟩ | ⟨v, h1, h2⟩
  ·exact stpG_iff.2 (.inl ⟨s1, h1, runOps_mono hk hx h2⟩)
  ·exact stpG_iff.2 (.inr ⟨v, h1, h2.1, hx _ h2.2⟩)
theorem seq_mono {K K' : AEx → AS → Prop} {N N' : AS → Prop} (hk : ∀ e s, K e s → K' e s) (hn : ∀ s, N s → N' s) : ∀ e s, AEx.seq K N e s → AEx.seq K' N' e s := fun e s h => by
 cases e <;> first|exact hn _ h|exact hk _ _ h
theorem blk_mono {K K' : AEx → AS → Prop} {id : Nat} (hk : ∀ e s, K e s → K' e s) : ∀ e s, AEx.blk id K e s → AEx.blk id K' e s := fun e s h => by
 cases e <;> try exact hk _ _ h
 simp only [AEx.blk] at h ⊢
 split at h
 ·rename_i e; rw [if_pos e]; exact hk _ _ h
 ·rename_i e; rw [if_neg e]; exact hk _ _ h
theorem awp_mono : ∀ (c : ACode) {K K' : AEx → AS → Prop} {st : AS}, (∀ e s, K e s → K' e s) → awp P E c K st → awp P E c K' st
 | .skip, _, _, _, hk, h => hk _ _ h
 | .reg al, _, _, _, hk, h => runOps_mono (fun s => hk _ _) (fun v => hk _ _) h
 | .seq a b, _, _, _, hk, h => awp_mono a (seq_mono hk fun s => awp_mono b hk) h
 | .cond c x y, _, _, _, hk, ⟨t, h0, h1, h2⟩ => ⟨t, h0, fun q => awp_mono x hk (h1 q), fun q => awp_mono y hk (h2 q)⟩
 | .block id c, _, _, _, hk, h => awp_mono c (blk_mono hk) h
 | .loop c, _, _, _, hk, ⟨ι, S, μ, i0, h0, h1⟩ => ⟨ι, S, μ, i0, h0, fun i => awp_mono c (seq_mono hk fun s q => q) (h1 i)⟩
 | .exit id, _, _, _, hk, h => hk _ _ h
 | .ret, _, _, _, hk, h => hk _ _ h
 | .bad, _, _, _, _, h => h.elim
 | .fgt, _, _, _, hk, ⟨s', h1, h2⟩ => ⟨s', h1, hk _ _ h2⟩
theorem fn_soundW (hE : Ok P J E) (h0 : E.hn = 0) (hJ : JOk J) {f : FuncId} {fn : Func} {code : Code} {ac : ACode} {vs : List RV} (hf : P.funcs[f]? = some fn) (hb : fn.body = some code)
  (hc : comp P fn.ntmps code = some ac.strip) (hr : rvs P fn.results.toList = some vs) {args : List AV} (hn : args.length ≤ fn.ntmps) {out : AOut} (h : awp P E ac (finW P vs (· = out)) (start args))
  (S : Snap) (w : World) (us : List Value) (hw : J w) (hA : Agr S w) (ha : All2 (Rep (g0 S)) args us) : Calls P f us.toArray w (Post S w out) := by
 refine calls_of_wp hf hb (wp_mono (code_soundF (c := ⟨w, S, fn.ntmps, []⟩) (g := g0 S) hE ⟨by simp [h0], hJ.lo w hw, by simp⟩ (fun w' hk => hJ.keep w w' _ [] (hJ.lo w hw) (by simp) hk hw) ac hc h ?_) fun e a' w' q => ?_)
 ·have hl := ha.length
  refine ⟨by simp; omega, rfl, .refl _ _ _, SLe.refl _, fun _ _ _ => rfl, hA, fun i => ?_, fun b cs hb => by simp [start] at hb, fun k r hk => by simp [start] at hk, fun x y h hx hy => ?_, fun i _ => ⟨rfl, rfl⟩, fun j h hj => by simp at hj⟩
  ·exact start_rep ha i
  ·obtain ⟨t, i⟩ := x
   cases t <;> simp [Owns, start] at hx
 ·have ret : ∀ (s : AS) (g' : Gh), (∃ v, (outOf P s vs = some v ∨ outOfK P s vs = some v) ∧ AOut.ret v = out) → Rel ⟨w, S, fn.ntmps, []⟩ (fun i => s.nx ≤ i) g' s a' w' → a'.defers = [] ∧ ∃ v, (results fn a'.tmps).run P w' = .ok v w' ∧ Post S w out (.returned v) w' := fun s g' ⟨v, hv, ho⟩ R => by
   obtain ⟨g2, L2, _, _, R2⟩ := R.shuts (refRs P s vs)
   obtain ⟨u, hu, rp⟩ : ∃ u, (results fn a'.tmps).run P w' = .ok u w' ∧ Rep (g0 g2.S) v u := hv.elim (fun hv => results_run R2 hr (by rw [(ret_shut _).2]; exact shut_shut) (by rw [(ret_shut _).1.1]; exact hv)) (fun hv => results_runK R2 hr (by rw [(ret_shut _).2]; exact shut_shut) (by rw [(ret_shut _).1.2]; exact hv))
   subst ho
   exact ⟨R.defers, u, hu, g2.S, R2.sle, R2.old, R2.agr, R.keep.below, rp⟩
  cases e with
  | normal => obtain ⟨g', s, k, R⟩ := q; exact ret s g' k R
  | ret => obtain ⟨g', s, k, R⟩ := q; exact ret s g' k R
  | panic ch =>
   obtain ⟨x, p, s, rfl, k, hp, hd, hk⟩ := q
   have k' : AOut.pan p = out := k
   have hp' : p = .s x := hp
   subst k' hp'
   exact ⟨hd, x, rfl, rfl, hk.below⟩
  | exit id => obtain ⟨g', s, k, R⟩ := q; exact k
  | goto l => exact q.elim
  | outgrown => exact q.elim
theorem fn_sound (hE : Ok P J E) (h0 : E.hn = 0) (hJ : JOk J) {f : FuncId} {fn : Func} {code : Code} {ac : ACode} {vs : List RV} (hf : P.funcs[f]? = some fn) (hb : fn.body = some code)
  (hc : comp P fn.ntmps code = some ac.strip) (hr : rvs P fn.results.toList = some vs) {args : List AV} (hn : args.length ≤ fn.ntmps) {out : AOut} (h : awp P E ac (fin P vs (· = out)) (start args))
  (S : Snap) (w : World) (us : List Value) (hw : J w) (hA : Agr S w) (ha : All2 (Rep (g0 S)) args us) : Calls P f us.toArray w (Post S w out) :=
 fn_soundW hE h0 hJ hf hb hc hr hn (awp_mono ac (fun e s h => by
  cases e with
  | normal => obtain ⟨v, h1, h2⟩ := h; exact ⟨v, .inl h1, h2⟩
  | ret => obtain ⟨v, h1, h2⟩ := h; exact ⟨v, .inl h1, h2⟩
  | pan v => exact h
  | exit i => exact h) h) S w us hw hA ha
def handsG (gr : Gr) (bx : Nat → Option (List AV)) : Nat → Nat → Option (List AV)
 | 0, _ => some []
 | n + 1, k => match bx k, handsG gr bx n (k + 1) with
  | some cs, some l => some (.agg (cs.map (pcell gr)) :: l)
  | _, _ => none
def refsH (bx : Nat → Option (List AV)) : Nat → Nat → List Nat
 | 0, _ => []
 | n + 1, k => (match bx k with | some cs => cs.flatMap refC | none => []) ++ refsH bx n (k + 1)
theorem handsG_get {gr : Gr} {bx : Nat → Option (List AV)} : ∀ {n k : Nat} {l : List AV}, handsG gr bx n k = some l → ∃ css : List (List AV), l = css.map .agg ∧ css.length = n ∧ ∀ (j : Nat) (cs : List AV), css[j]? = some cs → ∃ ds, bx (k + j) = some ds ∧ cs = ds.map (pcell gr) ∧ ∀ q ∈ ds.flatMap refC, q ∈ refsH bx n k
 | 0, k, l, h => by simp only [handsG, Option.some.injEq] at h; subst h; exact ⟨[], rfl, rfl, by simp⟩
 | n + 1, k, l, h => by
  simp only [handsG] at h
  split at h
  ·rename_i ds l' h1 h2
   cases h
   obtain ⟨css, rfl, e, f⟩ := handsG_get h2
   refine ⟨ds.map (pcell gr) :: css, rfl, by simp [e], fun j cs hj => ?_⟩
   cases j with
   | zero => simp at hj; subst hj; exact ⟨ds, h1, rfl, fun q hq => by simp only [refsH, Nat.add_zero, h1]; exact List.mem_append_left _ hq⟩
   | succ j =>
    obtain ⟨ds', d1, d2, d3⟩ := f j cs (by simpa using hj)
    exact ⟨ds', by rw [show k + (j + 1) = k + 1 + j by omega]; exact d1, d2, fun q hq => by simp only [refsH]; exact List.mem_append_right _ (d3 q hq)⟩
  ·cases h
def finH (P : Program) (rs : List RV) (hn : Nat) (K : AOut → Prop) : AEx → AS → Prop
 | .normal, s | .ret, s => ∃ v l, outOf P s rs = some v ∧ handsG s.gr s.bx hn 0 = some l ∧ K (.ret (.tup (v :: l)))
 | .pan p, _ => K (.pan p)
 | _, _ => False
def startH (css : List (List AV)) (args : List AV) : AS := ⟨fun i => (args[i]?).getD .any, fun j => css[j]?, fun _ => none, css.length⟩
theorem fn_soundH (hE : Ok P J E) (hJ : JOk J) {f : FuncId} {fn : Func} {code : Code} {ac : ACode} {vs : List RV} (hf : P.funcs[f]? = some fn) (hb : fn.body = some code)
  (hc : comp P fn.ntmps code = some ac.strip) (hr : rvs P fn.results.toList = some vs) {css : List (List AV)} {args : List AV} (h0 : css.length = E.hn) (hpos : 0 < E.hn) (hn : args.length ≤ fn.ntmps) {out : AOut} (h : awp P E ac (finH P vs E.hn (· = out)) (startH css args))
  (S : Snap) (w : World) (hs : List Nat) (us : List Value) (hw : J w) (hA : Agr S w) (hH : Handed J.lo S w hs (css.map .agg)) (ha : All2 (Rep (gH S hs)) args us) : Calls P f us.toArray w (PostH S w hs out) := by
 have hlen : css.length = hs.length := by have := hH.len; simpa using this
 have hbox : ∀ j cs h, css[j]? = some cs → hs[j]? = some h → ∃ vs T, w.heap[h]? = some (.cells vs T (0, 0)) ∧ All2 (Pur S) cs vs.toList ∧ ∀ o, S h o = none := fun j cs h hj hh => by
  obtain ⟨cs', vs, T, e, k⟩ := hH.box j (.agg cs) h (by rw [List.getElem?_map, hj]; rfl) hh
  cases e
  exact ⟨vs, T, k⟩
 refine calls_of_wp hf hb (wp_mono (code_soundF (c := ⟨w, S, fn.ntmps, hs⟩) (g := gH S hs) hE ⟨by simp only; omega, hJ.lo w hw, hH.ge⟩ (fun w' hk => hJ.keep w w' _ hs (hJ.lo w hw) hH.ge hk hw) ac hc h ?_) fun e a' w' q => ?_)
 ·have hl := ha.length
  refine ⟨by simp; omega, rfl, .refl _ _ _, SLe.refl _, fun _ _ _ => rfl, hA, fun i => start_rep ha i, fun b cs hb => ?_, fun k r hk => by simp [startH] at hk, fun x y h hx hy => ?_, fun i hi => ⟨?_, rfl⟩, fun j h hj => hj⟩
  ·have hb' : css[b]? = some cs := hb
   have hlt : b < hs.length := by rw [← hlen]; exact (List.getElem?_eq_some_iff.1 hb').1
   obtain ⟨vs, T, k1, k2, k3⟩ := hbox b cs _ hb' (List.getElem?_eq_getElem hlt)
   exact ⟨hs[b], vs, T, List.getElem?_eq_getElem hlt, .inr (List.getElem_mem hlt), k1, k2.imp fun _ _ p => .pur p, k3⟩
  ·obtain ⟨t, i⟩ := x
   obtain ⟨t', i'⟩ := y
   cases t with
   | false => obtain ⟨⟨r, h1, _⟩, _⟩ := hx; simp [startH] at h1
   | true =>
    cases t' with
    | false => obtain ⟨⟨r, h1, _⟩, _⟩ := hy; simp [startH] at h1
    | true =>
     obtain ⟨_, e1⟩ := hx
     obtain ⟨_, e2⟩ := hy
     have e1' : hs[i]? = some h := e1
     have e2' : hs[i']? = some h := e2
     have l1 := (List.getElem?_eq_some_iff.1 e1').1
     have l2 := (List.getElem?_eq_some_iff.1 e2').1
     rw [of_nodup hH.nd e1' e2']
  ·have hi' : css.length ≤ i := hi
   show hs[i]? = none
   exact List.getElem?_eq_none (by omega)
 ·have ret : ∀ (s : AS) (g' : Gh), (∃ v l, outOf P s vs = some v ∧ handsG s.gr s.bx E.hn 0 = some l ∧ AOut.ret (.tup (v :: l)) = out) → Rel ⟨w, S, fn.ntmps, hs⟩ (fun i => s.nx ≤ i) g' s a' w' → a'.defers = [] ∧ ∃ v, (results fn a'.tmps).run P w' = .ok v w' ∧ PostH S w hs out (.returned v) w' := fun s g' ⟨v, l, hv, hl, ho⟩ R => by
   obtain ⟨g2, L2, _, _, R2⟩ := R.shuts (refRs P s vs ++ refsH s.bx E.hn 0)
   obtain ⟨u, hu, rp⟩ := results_run R2 hr (by rw [(ret_shut _).2]; exact fun k hk => shut_shut k (List.mem_append_left _ hk)) (by rw [(ret_shut _).1.1]; exact hv)
   subst ho
   obtain ⟨css', rfl, c1, c2⟩ := handsG_get hl
   refine ⟨R.defers, u, hu, g2.S, ⟨R2.sle, R2.old, R2.agr, css', rfl, by omega, fun j cs h hj hh => ?_⟩, R.keep, rp⟩
   obtain ⟨ds, d1, rfl, d3⟩ := c2 j cs hj
   rw [Nat.zero_add] at d1
   obtain ⟨h', us', T, k1, k2, k3, k4, k5⟩ := R2.box j ds d1
   rw [R2.hand j h hh] at k1; cases k1
   refine ⟨us', T, k3, ?_⟩
   rw [← pcells_shut (ks := refRs P s vs ++ refsH s.bx E.hn 0)]
   exact pcells_pur R2 k4 fun y hy k hk => shut_shut k (List.mem_append_right _ (d3 k (List.mem_flatMap.2 ⟨y, hy, hk⟩)))
  cases e with
  | normal => obtain ⟨g', s, k, R⟩ := q; exact ret s g' k R
  | ret => obtain ⟨g', s, k, R⟩ := q; exact ret s g' k R
  | panic ch =>
   obtain ⟨x, p, s, rfl, k, hp, hd, hk⟩ := q
   have k' : AOut.pan p = out := k
   subst k'
   unfold PanR at hp
   dsimp only at hp
   cases hs with
   | nil => rw [← h0, hlen] at hpos; simp at hpos
   | cons h0' hs' =>
    obtain ⟨S', l, rfl, hE'⟩ := hp
    exact ⟨hd, S', x, rfl, rfl, hE', hk⟩
  | exit id => obtain ⟨g', s, k, R⟩ := q; exact k
  | goto l => exact q.elim
  | outgrown => exact q.elim
end
end Go.Proofs.YtnjmilelifmfpaaGreatDoor.Ev

namespace Go.Proofs.YtnjmilelifmfpaaGreatDoor.Ev
open Go Go.RowKit
abbrev T (n : Nat) : Operand := .tmp n
abbrev I (n : Int) : Operand := .const (.int .i64 n)
abbrev U8 (n : Int) : Operand := .const (.int .u8 n)
abbrev B (b : Bool) : Operand := .const (.bool b)
abbrev S (l : List UInt8) : Operand := .const (.string ⟨l.toArray⟩)
abbrev NilS : Operand := .const (.slice none 0 0)
abbrev a (d : Nat) (op : AOp) : AOper × Bool := (⟨some d, none, op⟩, false)
abbrev b (d : Nat) (op : AOp) : AOper × Bool := (⟨some d, none, op⟩, true)
abbrev a0 (op : AOp) : AOper × Bool := (⟨none, none, op⟩, false)
abbrev b0 (op : AOp) : AOper × Bool := (⟨none, none, op⟩, true)
abbrev ag (d t : Nat) (w : Bool) (op : AOp) : AOper × Bool := (⟨some d, some (t, w), op⟩, false)
abbrev bg (d t : Nat) (w : Bool) (op : AOp) : AOper × Bool := (⟨some d, some (t, w), op⟩, true)
end Go.Proofs.YtnjmilelifmfpaaGreatDoor.Ev

namespace Go.Proofs.YtnjmilelifmfpaaGreatDoor.Ev
open Go Go.RowKit
set_option linter.unusedSimpArgs false
set_option linter.unusedVariables false
def tm : List (Nat × AV) → Nat → AV
 | [], _ => .any
 | (d, v) :: l, i => if i = d then v else tm l i
def bm {α : Type} : List (Nat × Option α) → Nat → Option α
 | [], _ => none
 | (d, v) :: l, i => if i = d then v else bm l i
section
variable {l : List (Nat × AV)} {bx : List (Nat × Option (List AV))} {lv : List (Nat × Option GR)} {nx i d : Nat} {v : AV}
theorem put_some : AS.put ⟨tm l, bm bx, bm lv, nx⟩ (some d) v = ⟨tm ((d, v) :: l), bm bx, bm lv, nx⟩ := rfl
theorem put_none {st : AS} : AS.put st none v = st := rfl
theorem upd_bm {α : Type} {l : List (Nat × Option α)} {o : Option α} : upd (bm l) i o = bm ((i, o) :: l) := rfl
theorem tm_hit : tm ((i, v) :: l) i = v := if_pos rfl
theorem tm_miss (h : i ≠ d) : tm ((d, v) :: l) i = tm l i := if_neg h
theorem bm_hit {α : Type} {l : List (Nat × Option α)} {o : Option α} : bm ((i, o) :: l) i = o := if_pos rfl
theorem bm_miss {α : Type} {l : List (Nat × Option α)} {o : Option α} (h : i ≠ d) : bm ((d, o) :: l) i = bm l i := if_neg h
theorem ev_t {bx : Nat → Option (List AV)} {lv : Gr} : AS.ev ⟨tm l, bx, lv, nx⟩ (.tmp i) = tm l i := rfl
theorem ev_I {st : AS} {n : Int} : st.ev (I n) = .s (.int .i64 n) := rfl
theorem ev_U8 {st : AS} {n : Int} : st.ev (U8 n) = .s (.int .u8 n) := rfl
theorem ev_B {st : AS} {x : Bool} : st.ev (B x) = .s (.bool x) := rfl
theorem ev_S {st : AS} {x : List UInt8} : st.ev (S x) = .s (.string ⟨x.toArray⟩) := rfl
theorem ev_Nil {st : AS} : st.ev NilS = .s (.slice none 0 0) := rfl
end
theorem shut_bm {l : List (Nat × Option GR)} {ks : List Nat} : shut (bm l) ks = bm (l.map fun p => (p.1, if p.1 ∈ ks then p.2.map GR.shut else p.2)) := by
 funext k
 induction l with
 | nil => simp [shut, bm]
 | cons p l ih =>
  simp only [List.map_cons, bm]
  unfold shut at ih ⊢
  by_cases hk : k = p.1
  ·subst hk; simp [bm]
  ·simp only [bm, hk, if_false]; exact ih
theorem shut_no {gr : Gr} : shut gr [] = gr := shut_nil
theorem l_s {x : Value} {ks : List Nat} : lent (.s x) ks = [] := rfl
theorem l_agg {cs : List AV} {ks : List Nat} : lent (.agg cs) ks = ks := rfl
theorem l_row {xs : List (List AV)} {ks : List Nat} : lent (.row xs) ks = ks := rfl
theorem l_nil {v : AV} : lent v [] = [] := by unfold lent; split <;> rfl
theorem l_t0 {ks : List Nat} : lent (.tup []) ks = [] := rfl
theorem l_ts {x : Value} {l : List AV} {ks : List Nat} : lent (.tup (.s x :: l)) ks = lent (.tup l) ks := rfl
theorem l_ta {cs l : List AV} {ks : List Nat} : lent (.tup (.agg cs :: l)) ks = ks := rfl
theorem l_tr {xs : List (List AV)} {l : List AV} {ks : List Nat} : lent (.tup (.row xs :: l)) ks = ks := rfl
section
variable {P : Program} {E : Env} {K : AS → Prop} {X : AV → Prop} {id nx t : Nat} {d : Option Nat} {op : AOp} {z : Bool} {l : List (AOper × Bool)} {st : AS} {L : List (Nat × AV)} {bx : Nat → Option (List AV)} {gr : Gr}
theorem r_nil : runOps P E K X id [] ⟨tm L, bx, gr, nx⟩ = K ⟨tm L, bx, gr, nx⟩ := rfl
theorem r_op : runOps P E K X id ((⟨d, none, op⟩, z) :: l) ⟨tm L, bx, gr, nx⟩ = stp P E id ⟨tm L, bx, gr, nx⟩ d (runOps P E K X (id + 1) l) (fun v => z = true ∧ X v) op := by
 simp [runOps, stpG, want]
theorem r_g1 (h : tm L t = .s (.bool true)) : runOps P E K X id ((⟨d, some (t, true), op⟩, z) :: l) ⟨tm L, bx, gr, nx⟩ = stp P E id ⟨tm L, bx, gr, nx⟩ d (runOps P E K X (id + 1) l) (fun v => z = true ∧ X v) op := by
 simp [runOps, stpG, want, h]
theorem r_g2 (h : tm L t = .s (.bool false)) : runOps P E K X id ((⟨d, some (t, false), op⟩, z) :: l) ⟨tm L, bx, gr, nx⟩ = stp P E id ⟨tm L, bx, gr, nx⟩ d (runOps P E K X (id + 1) l) (fun v => z = true ∧ X v) op := by
 simp [runOps, stpG, want, h]
theorem r_n1 (h : tm L t = .s (.bool false)) : runOps P E K X id ((⟨d, some (t, true), op⟩, z) :: l) ⟨tm L, bx, gr, nx⟩ = runOps P E K X (id + 1) l (AS.put ⟨tm L, bx, gr, nx⟩ d (.tup [])) := by
 simp [runOps, stpG, want, h]
theorem r_n2 (h : tm L t = .s (.bool true)) : runOps P E K X id ((⟨d, some (t, false), op⟩, z) :: l) ⟨tm L, bx, gr, nx⟩ = runOps P E K X (id + 1) l (AS.put ⟨tm L, bx, gr, nx⟩ d (.tup [])) := by
 simp [runOps, stpG, want, h]
theorem r_n3 {w : Bool} (h : tm L t = .tup []) : runOps P E K X id ((⟨d, some (t, w), op⟩, z) :: l) ⟨tm L, bx, gr, nx⟩ = runOps P E K X (id + 1) l (AS.put ⟨tm L, bx, gr, nx⟩ d (.tup [])) := by
 simp [runOps, stpG, want, h]
end
section
variable {P : Program} {E : Env} {K : AEx → AS → Prop} {nx : Nat} {L : List (Nat × AV)} {bx : Nat → Option (List AV)} {gr : Gr}
theorem a_skip : awp P E .skip K ⟨tm L, bx, gr, nx⟩ = K .normal ⟨tm L, bx, gr, nx⟩ := rfl
theorem a_reg {al : List (AOper × Bool)} : awp P E (.reg al) K ⟨tm L, bx, gr, nx⟩ = runOps P E (fun s => K .normal { s with nx := nx + al.length }) (fun v => K (.pan v) ⟨tm L, bx, gr, nx⟩) nx al ⟨tm L, bx, gr, nx⟩ := rfl
theorem a_seq {x y : ACode} : awp P E (.seq x y) K ⟨tm L, bx, gr, nx⟩ = awp P E x (AEx.seq K (awp P E y K)) ⟨tm L, bx, gr, nx⟩ := rfl
theorem a_cond {c : Operand} {x y : ACode} : awp P E (.cond c x y) K ⟨tm L, bx, gr, nx⟩ = ∃ t, AS.ev ⟨tm L, bx, gr, nx⟩ c = .s (.bool t) ∧ (t = true → awp P E x K ⟨tm L, bx, gr, nx⟩) ∧ (t = false → awp P E y K ⟨tm L, bx, gr, nx⟩) := rfl
theorem a_block {i : Nat} {x : ACode} : awp P E (.block i x) K ⟨tm L, bx, gr, nx⟩ = awp P E x (AEx.blk i K) ⟨tm L, bx, gr, nx⟩ := rfl
theorem a_exit {i : Nat} : awp P E (.exit i) K ⟨tm L, bx, gr, nx⟩ = K (.exit i) ⟨tm L, bx, gr, nx⟩ := rfl
theorem a_ret : awp P E .ret K ⟨tm L, bx, gr, nx⟩ = K .ret ⟨tm L, bx, gr, nx⟩ := rfl
theorem f_ret {rs : List RV} {K : AOut → Prop} : fin P rs K .ret ⟨tm L, bx, gr, nx⟩ = ∃ v, outOf P ⟨tm L, bx, gr, nx⟩ rs = some v ∧ K (.ret v) := rfl
theorem f_normal {rs : List RV} {K : AOut → Prop} : fin P rs K .normal ⟨tm L, bx, gr, nx⟩ = ∃ v, outOf P ⟨tm L, bx, gr, nx⟩ rs = some v ∧ K (.ret v) := rfl
theorem f_pan {rs : List RV} {K : AOut → Prop} {v : AV} {s : AS} : fin P rs K (.pan v) s = K (.pan v) := rfl
theorem q_normal {N : AS → Prop} {s : AS} : AEx.seq K N .normal s = N s := rfl
theorem q_exit {N : AS → Prop} {s : AS} {i : Nat} : AEx.seq K N (.exit i) s = K (.exit i) s := rfl
theorem q_ret {N : AS → Prop} {s : AS} : AEx.seq K N .ret s = K .ret s := rfl
theorem q_pan {N : AS → Prop} {s : AS} {v : AV} : AEx.seq K N (.pan v) s = K (.pan v) s := rfl
theorem k_hit {s : AS} {i : Nat} : AEx.blk i K (.exit i) s = K .normal s := if_pos rfl
theorem k_miss {s : AS} {i j : Nat} (h : i ≠ j) : AEx.blk j K (.exit i) s = K (.exit i) s := if_neg h
theorem k_normal {s : AS} {i : Nat} : AEx.blk i K .normal s = K .normal s := rfl
theorem k_ret {s : AS} {i : Nat} : AEx.blk i K .ret s = K .ret s := rfl
theorem k_pan {s : AS} {i : Nat} {v : AV} : AEx.blk i K (.pan v) s = K (.pan v) s := rfl
end
def subC (nx : Nat) (ρ : Nat → Option Nat) : AV → AV → Prop
 | .any, _ => True
 | .s x, y => y = .s x
 | .row xs, y => y = .row xs
 | .elt cs o, y => y = .elt cs o
 | .ref k, .ref j => k < nx ∧ ρ k = some j
 | .ref k, .s (.slice none 0 0) => k < nx ∧ ρ k = none
 | .ptr b o, .ptr c o' => b < nx ∧ ρ b = some c ∧ o = o'
 | _, _ => False
def subs (nx : Nat) (ρ : Nat → Option Nat) : List AV → List AV → Prop
 | [], [] => True
 | a :: la, b :: bs => subC nx ρ a b ∧ subs nx ρ la bs
 | _, _ => False
def subT (nx : Nat) (ρ : Nat → Option Nat) : AV → AV → Prop
 | .agg cs, .agg ds => subs nx ρ cs ds
 | .fn f xs ys, .fn g us vs => f = g ∧ subs nx ρ xs us ∧ subs nx ρ ys vs
 | a, b => subC nx ρ a b
def tsub (nx : Nat) (ρ : Nat → Option Nat) (s : AS) : List (Nat × AV) → Prop
 | [] => True
 | p :: l => subT nx ρ p.2 (s.t p.1) ∧ tsub nx ρ s l
def bsub (nx : Nat) (ρ : Nat → Option Nat) (s : AS) : List (Nat × Option (List AV)) → Prop
 | [] => True
 | (b, some cs) :: l => (b < nx ∧ ∃ c ds, ρ b = some c ∧ s.bx c = some ds ∧ subs nx ρ cs ds) ∧ bsub nx ρ s l
 | (_, none) :: l => bsub nx ρ s l
def gsub (nx : Nat) (ρ : Nat → Option Nat) (s : AS) : List (Nat × Option GR) → Prop
 | [] => True
 | (k, some r) :: l => (k < nx ∧ (match ρ k with | some j => s.gr j = some r | none => r.xs = [])) ∧ gsub nx ρ s l
 | (_, none) :: l => gsub nx ρ s l
def onto : List (Nat × Nat) → Nat → Option Nat
 | [], _ => none
 | (a, b) :: l, i => if i = a then some b else onto l i
theorem onto_inj {l : List (Nat × Nat)} (h : (l.map (·.2)).Nodup) : ∀ {x y k : Nat}, onto l x = some k → onto l y = some k → x = y := by
 induction l with
 | nil => intro x y k h; cases h
 | cons p l ih =>
  obtain ⟨a, b⟩ := p
  simp only [List.map_cons, List.nodup_cons] at h
  have mem : ∀ {l : List (Nat × Nat)} {x k : Nat}, onto l x = some k → k ∈ l.map (·.2) := fun {l} => by
   induction l with
   | nil => intro x k h; cases h
   | cons p l ih =>
    intro x k h
    simp only [onto] at h
    split at h
    ·cases h; simp
    ·simp only [List.map_cons]; exact List.mem_cons_of_mem _ (ih h)
  intro x y k hx hy
  simp only [onto] at hx hy
  split at hx <;> split at hy
  ·rename_i p q; rw [p, q]
  ·cases hx; exact absurd (mem hy) h.1
  ·cases hy; exact absurd (mem hx) h.1
  ·exact ih h.2 hx hy
section
variable {c : Cx} {g : Gh} {s : AS} {a : Act} {w : World} {nx : Nat} {ρ : Nat → Option Nat}
def ghOf (g : Gh) (nx : Nat) (ρ : Nat → Option Nat) : Gh :=
 ⟨g.S, fun b => if b < nx then (ρ b).bind g.ι else none, fun k => if k < nx then (match ρ k with | some j => g.τ j | none => some (.slice none 0 0)) else none⟩
theorem subC_rep {x y : AV} {v : Value} (h : Cel g y v) (k : subC nx ρ x y) : Cel (ghOf g nx ρ) x v := by
 unfold subC at k
 split at k
 ·exact .pur (.any h.one)
 ·subst k; cases h with | pur p => exact .pur p
 ·subst k; cases h with | pur p => exact .pur p
 ·subst k
  cases h with
  | elt p => exact .elt p
  | pur p => cases p
 ·cases h with
  | ref e o => exact .ref (by simp [ghOf, k.1, k.2, e]) o
  | pur p => cases p
 ·cases h with | pur p => cases p; exact .ref (by simp [ghOf, k.1, k.2]) rfl
 ·obtain ⟨k1, k2, rfl⟩ := k
  cases h with
  | ptr e => exact .ptr (by simp [ghOf, k1, k2, e])
  | pur p => cases p
 ·exact k.elim
theorem subs_rep : ∀ {xs ys : List AV} {vs : List Value}, All2 (Cel g) ys vs → subs nx ρ xs ys → All2 (Cel (ghOf g nx ρ)) xs vs
 | [], [], _, .nil, _ => .nil
 | x :: xs, y :: ys, _, .cons h r, k => .cons (subC_rep h k.1) (subs_rep r k.2)
theorem subT_rep {x y : AV} {v : Value} (h : Rep g y v) (k : subT nx ρ x y) : Rep (ghOf g nx ρ) x v := by
 unfold subT at k
 split at k
 ·cases h with
  | com cm => cases cm with
   | cel cl => cases cl with | pur p => cases p
   | agg cs => exact .com (.agg (subs_rep cs k))
 ·obtain ⟨rfl, k1, k2⟩ := k
  cases h with
  | com cm => cases cm with
   | cel cl => cases cl with | pur p => cases p
   | fn xs ys => exact .com (.fn (subs_rep xs k1) (subs_rep ys k2))
 ·rename_i hne hne'
  by_cases hx : x = .any
  ·subst hx; exact .any
  ·have hcel : Cel g y v := by
    refine Cel.conv' h (fun cs e => ?_) (fun cs e => ?_) (fun e => ?_) (fun f xs ys e => ?_) <;> subst e <;> cases x <;> simp [subC] at k hx
   exact rep_cel (subC_rep hcel k)
theorem tsub_get {l : List (Nat × AV)} (h : tsub nx ρ s l) (i : Nat) : tm l i = .any ∨ subT nx ρ (tm l i) (s.t i) := by
 induction l with
 | nil => exact .inl rfl
 | cons p l ih =>
  obtain ⟨d, v⟩ := p
  by_cases hi : i = d
  ·subst hi; rw [tm_hit]; exact .inr h.1
  ·rw [tm_miss hi]; exact ih h.2
theorem bsub_get {l : List (Nat × Option (List AV))} (h : bsub nx ρ s l) {b : Nat} {cs : List AV} (hb : bm l b = some cs) : b < nx ∧ ∃ c ds, ρ b = some c ∧ s.bx c = some ds ∧ subs nx ρ cs ds := by
 induction l with
 | nil => cases hb
 | cons p l ih =>
  obtain ⟨d, v⟩ := p
  by_cases hi : b = d
  ·subst hi; rw [bm_hit] at hb; subst hb; exact h.1
  ·rw [bm_miss hi] at hb
   cases v with
   | none => exact ih h hb
   | some q => exact ih h.2 hb
theorem gsub_get {l : List (Nat × Option GR)} (h : gsub nx ρ s l) {k : Nat} {r : GR} (hk : bm l k = some r) : k < nx ∧ (match ρ k with | some j => s.gr j = some r | none => r.xs = []) := by
 induction l with
 | nil => cases hk
 | cons p l ih =>
  obtain ⟨d, v⟩ := p
  by_cases hi : k = d
  ·subst hi; rw [bm_hit] at hk; subst hk; exact h.1
  ·rw [bm_miss hi] at hk
   cases v with
   | none => exact ih h hk
   | some q => exact ih h.2 hk
theorem le_mk {hn : Nat} {L : List (Nat × AV)} {B : List (Nat × Option (List AV))} {G : List (Nat × Option GR)} (m : List (Nat × Nat)) (hm : (m.map (·.2)).Nodup) (hT : tsub nx (onto m) s L) (hB : bsub nx (onto m) s B) (hG : gsub nx (onto m) s G) (hh : ∀ j, j < hn → j < nx ∧ onto m j = some j := by first | (intro j hj; exact absurd hj (Nat.not_lt_zero j)) | decide) : Le hn ⟨tm L, bm B, bm G, nx⟩ s := by
 intro c g a w hcn R
 have hinj : ∀ {x y k : Nat}, onto m x = some k → onto m y = some k → x = y := onto_inj hm
 have own : ∀ x h, Owns ⟨tm L, bm B, bm G, nx⟩ (ghOf g nx (onto m)) x h → ∃ k, onto m x.2 = some k ∧ Owns s g (x.1, k) h := fun x h => by
  obtain ⟨t, i⟩ := x
  cases t with
  | true =>
   rintro ⟨h1, h2⟩
   cases hb : bm B i with
   | none => exact absurd hb h1
   | some cs =>
    obtain ⟨k1, c', ds, k2, k3, _⟩ := bsub_get hB hb
    simp only [ghOf, k1, if_true, k2, Option.bind_some] at h2
    exact ⟨c', k2, by simp [k3], h2⟩
  | false =>
   rintro ⟨⟨r, h1, hl⟩, v, h2, h3⟩
   obtain ⟨k1, k2⟩ := gsub_get hG h1
   simp only [ghOf, k1, if_true] at h2
   split at k2
   ·rename_i j hj
    rw [hj] at h2
    exact ⟨j, hj, ⟨r, k2, hl⟩, v, h2, h3⟩
   ·rename_i hj
    rw [hj] at h2; cases h2; cases h3
 refine ⟨ghOf g nx (onto m), R.size, R.defers, R.keep, R.sle, R.old, R.agr, fun i => ?_, fun b cs hb => ?_, fun k r hk => ?_, fun x y h hx hy => ?_, fun i hi => ?_, fun j h hj => ?_⟩
 ·rcases tsub_get hT i with h | h
  ·show Rep _ (tm L i) _; rw [h]; exact .any
  ·exact subT_rep (R.tmp i) h
 ·obtain ⟨k1, c', ds, k2, k3, k4⟩ := bsub_get hB hb
  obtain ⟨h, vs, T, e, q, hh, hc, hs⟩ := R.box c' ds k3
  exact ⟨h, vs, T, by simp [ghOf, k1, k2, e], q, hh, subs_rep hc k4, hs⟩
 ·obtain ⟨k1, k2⟩ := gsub_get hG hk
  split at k2
  ·rename_i j hj
   obtain ⟨v, e1, e2⟩ := R.row j r k2
   exact ⟨v, by simp [ghOf, k1, hj, e1], e2⟩
  ·rename_i hj
   have hx : r.xs = [] := k2
   refine ⟨.slice none 0 0, by simp [ghOf, k1, hj], ⟨by simp [hx], .inl rfl⟩, fun _ => ⟨[], by rw [hx]; exact World.ownsRow_nil w _ r.e r.sz, by rw [hx]; exact .nil, by simp [Value.ownBlock]⟩, fun _ => by rw [hx]; exact .nil⟩
 ·obtain ⟨k1, p1, q1⟩ := own x h hx
  obtain ⟨k2, p2, q2⟩ := own y h hy
  have := R.inj _ _ h q1 q2
  obtain ⟨x1, x2⟩ := x
  obtain ⟨y1, y2⟩ := y
  simp only [Prod.mk.injEq] at this ⊢
  exact ⟨this.1, hinj p1 (by rw [this.2]; exact p2)⟩
 ·have : ¬ i < nx := Nat.not_lt.2 hi
  exact ⟨by simp [ghOf, this], by simp [ghOf, this]⟩
 ·have hjl : j < c.gs.length := (List.getElem?_eq_some_iff.1 hj).1
  obtain ⟨k1, k2⟩ := hh j (by omega)
  simp [ghOf, k1, k2, R.hand j h hj]
end
theorem loop {P : Program} {E : Env} {K : AEx → AS → Prop} {x : ACode} {st : AS} {ι : Type} (S : ι → AS) (μ : ι → Nat) (i0 : ι) (h0 : Le E.hn (S i0) st) (h : ∀ i, awp P E x (AEx.seq K fun s' => ∃ j, Le E.hn (S j) s' ∧ μ j < μ i) (S i)) : awp P E (.loop x) K st := ⟨ι, S, μ, i0, h0, h⟩
section
variable {P : Program} {t : TypeId} {x y : Operand} {i j : Int} {k : IntKind} {p q : Bool} {s u : ByteArray}
theorem v_add : scv P (.bin .add t) [x, y] [.int .i64 i, .int .i64 j] = some (.s (.int .i64 (IntKind.i64.wrap (i + j)))) := rfl
theorem v_sub : scv P (.bin .sub t) [x, y] [.int .i64 i, .int .i64 j] = some (.s (.int .i64 (IntKind.i64.wrap (i - j)))) := rfl
theorem v_mul : scv P (.bin .mul t) [x, y] [.int .i64 i, .int .i64 j] = some (.s (.int .i64 (IntKind.i64.wrap (i * j)))) := rfl
theorem v_lss : scv P (.bin .lss t) [x, y] [.int .i64 i, .int .i64 j] = some (.s (.bool (decide (i < j)))) := rfl
theorem v_leq : scv P (.bin .leq t) [x, y] [.int .i64 i, .int .i64 j] = some (.s (.bool (decide (i ≤ j)))) := rfl
theorem v_gtr : scv P (.bin .gtr t) [x, y] [.int .i64 i, .int .i64 j] = some (.s (.bool (decide (i > j)))) := rfl
theorem v_geq : scv P (.bin .geq t) [x, y] [.int .i64 i, .int .i64 j] = some (.s (.bool (decide (i ≥ j)))) := rfl
theorem v_eql : scv P (.bin .eql t) [x, y] [.int .i64 i, .int .i64 j] = some (.s (.bool (i == j))) := rfl
theorem v_neq : scv P (.bin .neq t) [x, y] [.int .i64 i, .int .i64 j] = some (.s (.bool (i != j))) := rfl
theorem b_leq : scv P (.bin .leq t) [x, y] [.int .u8 i, .int .u8 j] = some (.s (.bool (decide (i ≤ j)))) := rfl
theorem b_geq : scv P (.bin .geq t) [x, y] [.int .u8 i, .int .u8 j] = some (.s (.bool (decide (i ≥ j)))) := rfl
theorem b_eql : scv P (.bin .eql t) [x, y] [.int .u8 i, .int .u8 j] = some (.s (.bool (i == j))) := rfl
theorem b_neq : scv P (.bin .neq t) [x, y] [.int .u8 i, .int .u8 j] = some (.s (.bool (i != j))) := rfl
theorem eq_toList : (s.toList == u.toList) = decide (s = u) := by
 have e : ∀ {s u : ByteArray}, s.toList = u.toList → s = u := fun {s u} h => by
  have h' : s.data.toList = u.data.toList := by
   have k : ∀ b : ByteArray, b.toList = b.data.toList := fun b => ByteArray.toList_eq b
   rw [← k, ← k]; exact h
  cases s; cases u; simp only [ByteArray.mk.injEq]; exact Array.toList_inj.1 h'
 by_cases h : s = u
 ·subst h; simp
 ·simp [h]; exact fun k => h (e k)
theorem s_add (h : s.size + u.size ≤ 9223372036854775807) : scv P (.bin .add t) [x, y] [.string s, .string u] = some (.s (.string (s ++ u))) := by
 have h' : ¬ ((s.size + u.size : Nat) : Int) > IntKind.i64.max := by rw [IntKind.max_i64]; omega
 have : pureRun P (Sc.sem P (.bin .add t) [x, y] [.string s, .string u]) = (if ((s.size + u.size : Nat) : Int) > IntKind.i64.max then none else some (.string (s ++ u))) := by
  show pureRun P (Op.stringOp .add s u) = _
  unfold Op.stringOp
  dsimp only
  split <;> rfl
 unfold scv
 rw [this, if_neg h']
 rfl
theorem s_eql : scv P (.bin .eql t) [x, y] [.string s, .string u] = some (.s (.bool (decide (s = u)))) := by rw [← eq_toList]; rfl
theorem s_neq : scv P (.bin .neq t) [x, y] [.string s, .string u] = some (.s (.bool (!decide (s = u)))) := by rw [← eq_toList]; rfl
theorem u_not : scv P (.un .not) [x] [.bool p] = some (.s (.bool !p)) := rfl
theorem u_neg : scv P (.un .neg) [x] [.int .i64 i] = some (.s (.int .i64 (IntKind.i64.wrap (0 - i)))) := rfl
theorem v_quo (h : j ≠ 0) : scv P (.bin .quo t) [x, y] [.int .i64 i, .int .i64 j] = some (.s (.int .i64 (IntKind.i64.wrap (Int.tdiv i j)))) := by
 have : pureRun P (Sc.sem P (.bin .quo t) [x, y] [.int .i64 i, .int .i64 j]) = some (.int .i64 (IntKind.i64.wrap (Int.tdiv i j))) := by
  show pureRun P (Op.intDiv .quo .i64 i j) = _
  unfold Op.intDiv
  rw [if_neg h]; rfl
 unfold scv; rw [this]; rfl
theorem v_rem (h : j ≠ 0) : scv P (.bin .rem t) [x, y] [.int .i64 i, .int .i64 j] = some (.s (.int .i64 (Int.tmod i j))) := by
 have : pureRun P (Sc.sem P (.bin .rem t) [x, y] [.int .i64 i, .int .i64 j]) = some (.int .i64 (Int.tmod i j)) := by
  show pureRun P (Op.intDiv .rem .i64 i j) = _
  unfold Op.intDiv
  rw [if_neg h]; rfl
 unfold scv; rw [this]; rfl
theorem pureRun_bind {α β : Type} (P : Program) : ∀ (s : Sem α) (f : α → Sem β), pureRun P (s >>= f) = (pureRun P s).bind fun a => pureRun P (f a) := fun s f => by
 show pureRun P (s.bind f) = _
 induction s <;> simp_all [Sem.bind, pureRun]
theorem pureRun_pure {α : Type} (P : Program) (a : α) : pureRun P (pure a : Sem α) = some a := rfl
theorem pureRun_map {α β : Type} (P : Program) (s : Sem α) (f : α → β) : pureRun P (f <$> s) = (pureRun P s).map f := by
 rw [map_eq_pure_bind, pureRun_bind]
 cases pureRun P s <;> rfl
theorem pureRun_underlying (P : Program) (t : TypeId) : pureRun P (underlying t) = P.underlying t := by
 unfold underlying
 rw [pureRun_bind, show pureRun P program = some P from rfl, Option.bind_some]
 cases P.underlying t <;> rfl
theorem v_cv {a b : TypeId} {d : TypeDesc} {k' : IntKind} (h1 : P.underlying a = some d) (h2 : P.underlying b = some (.int k')) : scv P (.cv a b) [x] [.int k i] = some (.s (.int k' (k'.wrap i))) := by
 have : pureRun P (Sc.sem P (.cv a b) [x] [.int k i]) = some (.int k' (k'.wrap i)) := by
  show pureRun P (convert a b (.int k i)) = _
  unfold convert
  simp only [pureRun_bind, pureRun_underlying, h1, h2, Option.bind_some]
  rfl
 unfold scv; rw [this]; rfl
theorem v_ix {n : Nat} {b : UInt8} (ht : P.underlying t = some .string) (hb : s.data.toList[n]? = some b) : scv P (.ix t) [x, y] [.string s, .int k (.ofNat n)] = some (.s (.int .u8 (.ofNat b.toNat))) := by
 have : pureRun P (Sc.sem P (.ix t) [x, y] [.string s, .int k (.ofNat n)]) = some (.int .u8 (.ofNat b.toNat)) := by
  show pureRun P (Instr.index t (.string s) (.int k (.ofNat n))) = _
  unfold Instr.index
  rw [pureRun_bind, show pureRun P (asIntOf (.int k (.ofNat n))) = some (k, Int.ofNat n) from rfl, Option.bind_some]
  dsimp only
  rw [pureRun_bind, pureRun_underlying, ht, Option.bind_some]
  have hlt : n < s.size := by
   have := (List.getElem?_eq_some_iff.1 hb).1
   rw [Array.length_toList] at this
   exact this
  have hg : (if (0 : Int) ≤ Int.ofNat n then s[(Int.ofNat n).toNat]? else none) = some b := by
   rw [if_pos (by simp)]
   show s[n]? = some b
   rw [ByteArray.getElem?_lt' s _ hlt]
   congr 1
   have h2 := (List.getElem?_eq_some_iff.1 hb).2
   rw [← h2]; rfl
  simp only [hg]
  rfl
 unfold scv; rw [this]; rfl
theorem v_sl2 {k' : IntKind} {z : Operand} {l h : Nat} (ht : P.underlying t = some .string) (h1 : l ≤ h) (h2 : h ≤ s.size) : scv P (.sl t true true) [x, y, z] [.string s, .int k (.ofNat l), .int k' (.ofNat h)] = some (.s (.string (s.extract l h))) := by
 have hb : ∀ (k : IntKind) (n m : Nat) c, n ≤ m → pureRun P (Instr.sliceBound (.int k (.ofNat n)) m c) = some n := fun k n m c hnm => by
  unfold Instr.sliceBound
  rw [pureRun_bind, show pureRun P (asIntOf (.int k (.ofNat n))) = some (k, Int.ofNat n) from rfl, Option.bind_some]
  dsimp only
  rw [if_pos ⟨by simp, by simpa using hnm⟩]
  rfl
 have : pureRun P (Sc.sem P (.sl t true true) [x, y, z] [.string s, .int k (.ofNat l), .int k' (.ofNat h)]) = some (.string (s.extract l h)) := by
  show pureRun P (Instr.sliceAt t (.string s) (some (.int k (.ofNat l))) (some (.int k' (.ofNat h))) none) = _
  unfold Instr.sliceAt
  rw [pureRun_bind, pureRun_underlying, ht, Option.bind_some]
  show pureRun P (Instr.slice t (.string s) (some (.int k (.ofNat l))) (some (.int k' (.ofNat h))) none) = _
  unfold Instr.slice
  rw [pureRun_bind, pureRun_underlying, ht, Option.bind_some]
  simp only [Option.isSome_none, Bool.false_eq_true, if_false]
  have e1 : ∀ c, pureRun P (Instr.sliceBound (.int k' (h : Int)) s.size c) = some h := fun c => hb k' h s.size c h2
  have e2 : ∀ c, pureRun P (Instr.sliceBound (.int k (l : Int)) h c) = some l := fun c => hb k l h c h1
  simp [pureRun_bind, pureRun_pure, pureRun_map, Instr.sliceBounds, e1, e2]
 unfold scv; rw [this]; rfl
theorem v_sl1 {l : Nat} (ht : P.underlying t = some .string) (h2 : l ≤ s.size) : scv P (.sl t true false) [x, y] [.string s, .int k (.ofNat l)] = some (.s (.string (s.extract l s.size))) := by
 have hb : ∀ (k : IntKind) (n m : Nat) c, n ≤ m → pureRun P (Instr.sliceBound (.int k (.ofNat n)) m c) = some n := fun k n m c hnm => by
  unfold Instr.sliceBound
  rw [pureRun_bind, show pureRun P (asIntOf (.int k (.ofNat n))) = some (k, Int.ofNat n) from rfl, Option.bind_some]
  dsimp only
  rw [if_pos ⟨by simp, by simpa using hnm⟩]
  rfl
 have : pureRun P (Sc.sem P (.sl t true false) [x, y] [.string s, .int k (.ofNat l)]) = some (.string (s.extract l s.size)) := by
  show pureRun P (Instr.sliceAt t (.string s) (some (.int k (.ofNat l))) none none) = _
  unfold Instr.sliceAt
  rw [pureRun_bind, pureRun_underlying, ht, Option.bind_some]
  show pureRun P (Instr.slice t (.string s) (some (.int k (.ofNat l))) none none) = _
  unfold Instr.slice
  rw [pureRun_bind, pureRun_underlying, ht, Option.bind_some]
  simp only [Option.isSome_none, Bool.false_eq_true, if_false]
  have e2 : ∀ c, pureRun P (Instr.sliceBound (.int k (l : Int)) s.size c) = some l := fun c => hb k l s.size c h2
  simp [pureRun_bind, pureRun_pure, pureRun_map, Instr.sliceBounds, e2]
 unfold scv; rw [this]; rfl
theorem v_len {u : TypeId} {xs : List Operand} (ht : P.underlying t = some .string) : scv P (.bi .len [t] u) xs [.string s] = some (.s (.int .i64 s.size)) := by
 have : pureRun P (Sc.sem P (.bi .len [t] u) xs [.string s]) = some (.int .i64 s.size) := by
  show pureRun P (Builtin.len_ #[t] u #[.string s]) = _
  unfold Builtin.len_
  show pureRun P (do match ← underlying t, Value.string s with | _, _ => _) = _
  rw [pureRun_bind, pureRun_underlying, ht, Option.bind_some]
  rfl
 unfold scv; rw [this]; rfl
end
abbrev Spec := List AV → AOut → Prop
def Con (P : Program) (J : JW) (f : FuncId) (T : Spec) : Prop := ∀ args out, T args out → OkAt P J f args out
def sps : List (FuncId × Spec) → FuncId → List AV → AOut → Prop
 | [], _, _, _ => False
 | (f, T) :: l, g, args, out => if g = f then T args out else sps l g args out
def env (l : List (FuncId × Spec)) : Env := ⟨sps l, 0⟩
def envH (n : Nat) (l : List (FuncId × Spec)) : Env := ⟨sps l, n⟩
theorem ok_nil {P : Program} {J : JW} : Ok P J (env []) := fun _ _ _ h => h.elim
theorem ok_cons {P : Program} {J : JW} {f : FuncId} {T : Spec} {l : List (FuncId × Spec)} (h : Con P J f T) (k : Ok P J (env l)) (hf : fnOk P f = true := by kernel_rfl) : Ok P J (env ((f, T) :: l)) := fun g args out he => by
 replace he : sps ((f, T) :: l) g args out := he
 simp only [sps] at he
 split at he
 ·rename_i e; subst e; exact ⟨hf, h args out he⟩
 ·exact k g args out he
theorem ok_h {P : Program} {J : JW} {l : List (FuncId × Spec)} {n : Nat} (h : Ok P J (env l)) : Ok P J (envH n l) := h
theorem con {P : Program} {E : Env} {J : JW} (hE : Ok P J E) (hJ : JOk J) {f : FuncId} {fn : Func} {code : Code} {ac : ACode} {vs : List RV} {T : Spec} (hf : P.funcs[f]? = some fn) (hb : fn.body = some code)
  (hc : comp P fn.ntmps code = some ac) (hr : rvs P fn.results.toList = some vs) (h : ∀ args out, T args out → headT args = none ∧ args.length ≤ fn.ntmps ∧ awp P E ac (fin P vs (· = out)) (start args)) (h0 : E.hn = 0 := by rfl) (hs : ac.strip = ac := by kernel_rfl) : Con P J f T :=
 fun args out ho => by
  obtain ⟨h1, h2, h3⟩ := h args out ho
  unfold OkAt
  rw [h1]
  exact fn_sound hE h0 hJ hf hb (by rw [hs]; exact hc) hr h2 h3
theorem conF {P : Program} {E : Env} {J : JW} (ac' : ACode) (hE : Ok P J E) (hJ : JOk J) {f : FuncId} {fn : Func} {code : Code} {ac : ACode} {vs : List RV} {T : Spec} (hf : P.funcs[f]? = some fn) (hb : fn.body = some code)
  (hc : comp P fn.ntmps code = some ac) (hr : rvs P fn.results.toList = some vs) (hs : ac'.strip = ac) (h : ∀ args out, T args out → headT args = none ∧ args.length ≤ fn.ntmps ∧ awp P E ac' (fin P vs (· = out)) (start args)) (h0 : E.hn = 0 := by rfl) : Con P J f T :=
 fun args out ho => by
  obtain ⟨h1, h2, h3⟩ := h args out ho
  unfold OkAt
  rw [h1]
  exact fn_sound hE h0 hJ hf hb (by rw [hs]; exact hc) hr h2 h3
theorem conH {P : Program} {E : Env} {J : JW} (hE : Ok P J E) (hJ : JOk J) {f : FuncId} {fn : Func} {code : Code} {ac : ACode} {vs : List RV} {T : Spec} (hf : P.funcs[f]? = some fn) (hb : fn.body = some code)
  (hc : comp P fn.ntmps code = some ac) (hr : rvs P fn.results.toList = some vs) (h : ∀ args out, T args out → ∃ css al, args = .tup (css.map .agg) :: al ∧ css.length = E.hn ∧ al.length ≤ fn.ntmps ∧ awp P E ac (finH P vs E.hn (· = out)) (startH css al)) (h0 : 0 < E.hn := by decide) (hs : ac.strip = ac := by kernel_rfl) : Con P J f T :=
 fun args out ho => by
  obtain ⟨css, al, rfl, h1, h2, h3⟩ := h args out ho
  show ∀ S w hs vs, J w → Agr S w → Handed J.lo S w hs (css.map .agg) → All2 (Rep (gH S hs)) al vs → Calls P f vs.toArray w (PostH S w hs out)
  exact fn_soundH hE hJ hf hb (by rw [hs]; exact hc) hr h1 h0 h2 h3
end Go.Proofs.YtnjmilelifmfpaaGreatDoor.Ev

namespace Go.Proofs.YtnjmilelifmfpaaGreatDoor.Ev
open Go Go.RowKit
set_option linter.unusedSimpArgs false
set_option linter.unusedVariables false
theorem env_sp {l : List (FuncId × Spec)} : (env l).sp = sps l := rfl
theorem env_hn {l : List (FuncId × Spec)} : (env l).hn = 0 := rfl
theorem envH_sp {l : List (FuncId × Spec)} {n : Nat} : (envH n l).sp = sps l := rfl
theorem envH_hn {l : List (FuncId × Spec)} {n : Nat} : (envH n l).hn = n := rfl
theorem env_hit {f : FuncId} {T : Spec} {l : List (FuncId × Spec)} {args : List AV} {out : AOut} : sps ((f, T) :: l) f args out = T args out := if_pos rfl
theorem env_miss {f g : FuncId} {T : Spec} {l : List (FuncId × Spec)} {args : List AV} {out : AOut} (h : g ≠ f) : sps ((f, T) :: l) g args out = sps l g args out := if_neg h
def tms : Nat → List AV → List (Nat × AV)
 | _, [] => []
 | k, x :: l => (k, x) :: tms (k + 1) l
def bms : Nat → List (List AV) → List (Nat × Option (List AV))
 | _, [] => []
 | k, x :: l => (k, some x) :: bms (k + 1) l
theorem tms_is : ∀ (l : List AV) (k i : Nat), tm (tms k l) (k + i) = (l[i]?).getD .any
 | [], _, _ => by simp [tms, tm]
 | x :: l, k, 0 => by simp [tms, tm]
 | x :: l, k, i + 1 => by
  have := tms_is l (k + 1) i
  simp only [tms, tm]
  rw [if_neg (by omega), show k + (i + 1) = k + 1 + i by omega, this]
  simp
theorem bms_is : ∀ (l : List (List AV)) (k i : Nat), bm (bms k l) (k + i) = l[i]?
 | [], _, _ => by simp [bms, bm]
 | x :: l, k, 0 => by simp [bms, bm]
 | x :: l, k, i + 1 => by
  have := bms_is l (k + 1) i
  simp only [bms, bm]
  rw [if_neg (by omega), show k + (i + 1) = k + 1 + i by omega, this]
  simp
theorem startL {l : List AV} : start l = ⟨tm (tms 0 l), bm [], bm [], 0⟩ := by
 unfold start
 congr
 funext i
 have := tms_is l 0 i
 rw [Nat.zero_add] at this
 exact this.symm
theorem startHL {css : List (List AV)} {l : List AV} : startH css l = ⟨tm (tms 0 l), bm (bms 0 css), bm [], css.length⟩ := by
 unfold startH
 congr
 ·funext i
  have := tms_is l 0 i
  rw [Nat.zero_add] at this
  exact this.symm
 ·funext i
  have := bms_is css 0 i
  rw [Nat.zero_add] at this
  exact this.symm
theorem pan0 {bx : Nat → Option (List AV)} {v : AV} : panV 0 bx v = some v := rfl
theorem pan1 {bx : Nat → Option (List AV)} {v : AV} : panV 1 bx v = (bx 0).map fun cs => .tup [v, .agg (cs.map pcellN)] := by
 simp only [panV, handsN]; cases bx 0 <;> rfl
theorem pan2 {bx : Nat → Option (List AV)} {v : AV} : panV 2 bx v = (bx 0).bind fun cs => (bx 1).map fun ds => .tup [v, .agg (cs.map pcellN), .agg (ds.map pcellN)] := by
 simp only [panV, handsN]; cases bx 0 <;> cases bx 1 <;> rfl
theorem hG1 {gr : Gr} {bx : Nat → Option (List AV)} : handsG gr bx 1 0 = (bx 0).map fun cs => [.agg (cs.map (pcell gr))] := by
 simp only [handsG]; cases bx 0 <;> rfl
theorem hG2 {gr : Gr} {bx : Nat → Option (List AV)} : handsG gr bx 2 0 = (bx 0).bind fun cs => (bx 1).map fun ds => [.agg (cs.map (pcell gr)), .agg (ds.map (pcell gr))] := by
 simp only [handsG]; cases bx 0 <;> cases bx 1 <;> rfl
theorem fH_ret {P : Program} {nx hn : Nat} {L : List (Nat × AV)} {bx : Nat → Option (List AV)} {gr : Gr} {rs : List RV} {K : AOut → Prop} : finH P rs hn K .ret ⟨tm L, bx, gr, nx⟩ = ∃ v l, outOf P ⟨tm L, bx, gr, nx⟩ rs = some v ∧ handsG gr bx hn 0 = some l ∧ K (.ret (.tup (v :: l))) := rfl
theorem fH_normal {P : Program} {nx hn : Nat} {L : List (Nat × AV)} {bx : Nat → Option (List AV)} {gr : Gr} {rs : List RV} {K : AOut → Prop} : finH P rs hn K .normal ⟨tm L, bx, gr, nx⟩ = ∃ v l, outOf P ⟨tm L, bx, gr, nx⟩ rs = some v ∧ handsG gr bx hn 0 = some l ∧ K (.ret (.tup (v :: l))) := rfl
theorem fH_pan {P : Program} {hn : Nat} {s : AS} {rs : List RV} {K : AOut → Prop} {p : AV} : finH P rs hn K (.pan p) s = K (.pan p) := rfl
theorem tgt_func {f : FuncId} : tgt (.s (.func (.func f) #[] #[])) = some (f, [], []) := rfl
theorem tgt_fn {f : FuncId} {xs ys : List AV} : tgt (.fn f xs ys) = some (f, xs, ys) := rfl
theorem ev_f {st : AS} {f : FuncId} : st.ev (.func f) = .s (.func (.func f) #[] #[]) := rfl
section
variable {K : AV → List (List AV) → Prop} {X : AV → List (List AV) → Prop} {v : AV} {c d : List AV} {h k : Nat} {o : AOut}
theorem onH0 : AOut.onH [] K X (.ret v) = K v [] := rfl
theorem onX0 : AOut.onH [] K X (.pan v) = X v [] := rfl
theorem onH1 : AOut.onH [h] K X (.ret (.tup [v, .agg c])) = K v [c] := propext ⟨fun ⟨u, css, e, l, p⟩ => by
 cases css with
 | nil => simp at l
 | cons x css =>
  cases css with
  | nil => simp at e; obtain ⟨rfl, rfl⟩ := e; exact p
  | cons y css => simp at l, fun p => ⟨v, [c], rfl, rfl, p⟩⟩
theorem onX1 : AOut.onH [h] K X (.pan (.tup [v, .agg c])) = X v [c] := propext ⟨fun ⟨u, css, e, l, p⟩ => by
 cases css with
 | nil => simp at l
 | cons x css =>
  cases css with
  | nil => simp at e; obtain ⟨rfl, rfl⟩ := e; exact p
  | cons y css => simp at l, fun p => ⟨v, [c], rfl, rfl, p⟩⟩
theorem onH2 : AOut.onH [h, k] K X (.ret (.tup [v, .agg c, .agg d])) = K v [c, d] := propext ⟨fun ⟨u, css, e, l, p⟩ => by
 cases css with
 | nil => simp at l
 | cons x css =>
  cases css with
  | nil => simp at l
  | cons y css =>
   cases css with
   | nil => simp at e; obtain ⟨rfl, rfl, rfl⟩ := e; exact p
   | cons z css => simp at l, fun p => ⟨v, [c, d], rfl, rfl, p⟩⟩
theorem onX2 : AOut.onH [h, k] K X (.pan (.tup [v, .agg c, .agg d])) = X v [c, d] := propext ⟨fun ⟨u, css, e, l, p⟩ => by
 cases css with
 | nil => simp at l
 | cons x css =>
  cases css with
  | nil => simp at l
  | cons y css =>
   cases css with
   | nil => simp at e; obtain ⟨rfl, rfl, rfl⟩ := e; exact p
   | cons z css => simp at l, fun p => ⟨v, [c, d], rfl, rfl, p⟩⟩
end
theorem ex2 {α β : Type} {a : α} {b : β} {p : α → β → Prop} : (∃ x y, a = x ∧ b = y ∧ p x y) = p a b := propext ⟨fun ⟨_, _, h1, h2, h⟩ => by subst h1 h2; exact h, fun h => ⟨a, b, rfl, rfl, h⟩⟩
theorem ex3 {α β γ : Type} {a : α} {p : α → β → γ → Prop} : (∃ x y z, a = x ∧ p x y z) = ∃ y z, p a y z := propext ⟨fun ⟨_, y, z, h1, h⟩ => by subst h1; exact ⟨y, z, h⟩, fun ⟨y, z, h⟩ => ⟨a, y, z, rfl, h⟩⟩
theorem ex4 {α β γ : Type} {a : α} {b : β} {c : γ} {p : α → β → γ → Prop} : (∃ x y z, (a, b) = (x, y) ∧ c = z ∧ p x y z) = p a b c := propext ⟨fun ⟨_, _, _, h1, h2, h⟩ => by cases h1; subst h2; exact h, fun h => ⟨a, b, c, rfl, rfl, h⟩⟩
theorem tf : (true == false) = false := rfl
theorem ft : (false == true) = false := rfl
theorem idx_nat {k : IntKind} {n : Nat} : idxOf (.s (.int k (n : Int))) = some n := by simp [idxOf]
theorem v_max {P : Program} {xs : List Operand} {i j : Int} {t : TypeId} : scv P (.bi .max [t, t] t) xs [.int .i64 i, .int .i64 j] = some (.s (.int .i64 (if j > i then j else i))) := rfl
theorem v_min {P : Program} {xs : List Operand} {i j : Int} {t : TypeId} : scv P (.bi .min [t, t] t) xs [.int .i64 i, .int .i64 j] = some (.s (.int .i64 (if j < i then j else i))) := rfl
theorem count {P : Program} {E : Env} {K : AEx → AS → Prop} {x : ACode} {st : AS} (N : Nat) (S : Nat → AS) (h0 : Le E.hn (S 0) st) (h : ∀ i, i ≤ N → awp P E x (AEx.seq K fun s' => i < N ∧ Le E.hn (S (i + 1)) s') (S i)) : awp P E (.loop x) K st :=
 loop (ι := { i : Nat // i ≤ N }) (fun i => S i.1) (fun i => N - i.1) ⟨0, Nat.zero_le _⟩ h0 fun ⟨i, hi⟩ =>
  awp_mono x (seq_mono (fun _ _ q => q) fun s' ⟨q1, q2⟩ => ⟨⟨i + 1, q1⟩, q2, by dsimp only; omega⟩) (h i hi)
theorem countI {P : Program} {E : Env} {K : AEx → AS → Prop} {x : ACode} {st : AS} {α : Type} (N : Nat) (I : Nat → α → Prop) (S : Nat → α → AS) (a0 : α) (hI : I 0 a0) (h0 : Le E.hn (S 0 a0) st)
  (h : ∀ i a, i ≤ N → I i a → awp P E x (AEx.seq K fun s' => i < N ∧ ∃ a', I (i + 1) a' ∧ Le E.hn (S (i + 1) a') s') (S i a)) : awp P E (.loop x) K st :=
 loop (ι := { i : Nat × α // i.1 ≤ N ∧ I i.1 i.2 }) (fun i => S i.1.1 i.1.2) (fun i => N - i.1.1) ⟨(0, a0), Nat.zero_le _, hI⟩ h0 fun ⟨⟨i, a⟩, hi, ha⟩ =>
  awp_mono x (seq_mono (fun _ _ q => q) fun s' ⟨q1, a', q2, q3⟩ => ⟨⟨(i + 1, a'), q1, q2⟩, q3, by dsimp only; omega⟩) (h i a hi ha)
theorem lm {hn nx : Nat} {s : AS} {L : List (Nat × AV)} {B : List (Nat × Option (List AV))} {G : List (Nat × Option GR)} (m : List (Nat × Nat)) (hm : (m.map (·.2)).Nodup := by decide)
  (hT : tsub nx (onto m) s L := by simp [tsub, subT, subs, subC, onto, tm]) (hB : bsub nx (onto m) s B := by simp [bsub, subs, subC, onto, bm]) (hG : gsub nx (onto m) s G := by simp [gsub, onto, bm])
  (hh : ∀ j, j < hn → j < nx ∧ onto m j = some j := by first | (intro j hj; exact absurd hj (Nat.not_lt_zero j)) | decide) : Le hn ⟨tm L, bm B, bm G, nx⟩ s := le_mk m hm hT hB hG hh
theorem a_fgt {P : Program} {E : Env} {K : AEx → AS → Prop} {st : AS} : awp P E .fgt K st = ∃ s', Le E.hn s' st ∧ K .normal s' := rfl
def pcellB (k : Bool) (gr : Gr) (x : AV) : AV := match k with | true => pcellK gr x | false => pcell gr x
section
variable {k : Bool} {gr : Gr} {cs : List AV} {i : Int} {kd : IntKind} {s : ByteArray} {p : Bool} {xs : List (List AV)} {n : Nat}
theorem sB_agg : stripB k gr (.agg cs) = .agg (cs.map (pcellB k gr)) := by cases k <;> rfl
theorem sB_int : stripB k gr (.s (.int kd i)) = .s (.int kd i) := by cases k <;> rfl
theorem sB_str : stripB k gr (.s (.string s)) = .s (.string s) := by cases k <;> rfl
theorem sB_bool : stripB k gr (.s (.bool p)) = .s (.bool p) := by cases k <;> rfl
theorem sB_row : stripB k gr (.row xs) = .row xs := by cases k <;> rfl
theorem sB_ref : stripB k gr (.ref n) = strip gr (.ref n) := by cases k <;> rfl
theorem sB_nil : stripB k gr (.s (.slice none 0 0)) = if k then .s (.slice none 0 0) else .row [] := by cases k <;> rfl
theorem sB_fn {f : FuncId} {us vs : List AV} : stripB k gr (.fn f us vs) = strip gr (.fn f us vs) := by cases k <;> rfl
theorem sB_ptr {o : Nat} : stripB k gr (.ptr n o) = .any := by cases k <;> rfl
theorem pB_int : pcellB k gr (.s (.int kd i)) = .s (.int kd i) := by cases k <;> rfl
theorem pB_str : pcellB k gr (.s (.string s)) = .s (.string s) := by cases k <;> rfl
theorem pB_bool : pcellB k gr (.s (.bool p)) = .s (.bool p) := by cases k <;> rfl
theorem pB_row : pcellB k gr (.row xs) = .row xs := by cases k <;> rfl
theorem pB_ref : pcellB k gr (.ref n) = pcell gr (.ref n) := by cases k <;> rfl
theorem pB_nil : pcellB k gr (.s (.slice none 0 0)) = if k then .s (.slice none 0 0) else .row [] := by cases k <;> rfl
end
theorem go {p q : Prop} (h : q) (e : p = q := by
 simp (config := { decide := true }) only [sB_agg, sB_int, sB_str, sB_bool, sB_row, sB_ref, sB_nil, sB_fn, sB_ptr, pB_int, pB_str, pB_bool, pB_row, pB_ref, pB_nil, a_fgt, a_skip, a_reg, a_seq, a_cond, a_block, a_exit, a_ret, f_ret, f_normal, f_pan, q_normal, q_exit, q_ret, q_pan, k_hit, k_miss, k_normal, k_ret, k_pan, r_nil, r_op, r_g1, r_g2, r_n1, r_n2, r_n3, stp, pv, startL, startHL, tms, bms, env_sp, env_hn, envH_sp, envH_hn, idx_nat, v_max, v_min, pan0, pan1, pan2, hG1, hG2, fH_ret, fH_normal, fH_pan, tgt_func, tgt_fn, ev_f, onH0, onX0, onH1, onX1, onH2, onX2, callP, conts, argsH, nub, boxesOf, boxC, hstrip, hcell, ix, setBx, cells1, isCell, pcellN, Option.bind_some, List.filter_nil, List.filter_cons, List.flatten_cons, List.flatten_nil,  put_some, put_none, upd_bm, shut_bm, shut_no, l_s, l_agg, l_row, l_nil, l_t0, l_ts, l_ta, l_tr, tm_hit, tm_miss, bm_hit, bm_miss, ev_t, ev_I, ev_U8, ev_B, ev_S, ev_Nil, v_add, v_sub, v_mul, v_lss, v_leq, v_gtr, v_geq, v_eql, v_neq, b_leq, b_geq, b_eql, b_neq, s_eql, s_neq, u_not, u_neg, v_quo, v_rem,
  a, b, a0, b0, ag, bg, scs, sc, cs1, cut, rowOf, roOf, idxOf, cellsA, put1, fillA, elemsOf, strip, pcell, refs, refC, growOf, killT, here, outOf, getRs, getR, okc, AOut.on, env_hit, env_miss, GR.shut,
  List.map_cons, List.map_nil, List.flatMap_cons, List.flatMap_nil, List.append_nil, List.nil_append, List.cons_append, List.all_cons, List.all_nil, List.drop_zero, List.drop_succ_cons, List.take_succ_cons, List.take_zero, List.take_nil, List.drop_nil, List.getElem?_cons_zero, List.getElem?_cons_succ, Option.map_some, Option.map_none, Option.isSome_some, Bool.and_true, Bool.true_and, Bool.and_eq_true,
  Option.some.injEq, exists_eq_left', exists_eq_left, ex2, ex3, ex4, tf, ft, exists_eq_right, if_true, if_false, ite_true, ite_false, Bool.false_eq_true, eq_self_iff_true, AV.s.injEq, Value.bool.injEq, AOut.ret.injEq, List.length_cons, List.length_nil, Nat.zero_add, Nat.add_zero, Nat.reduceAdd, Nat.reduceEqDiff, Nat.reduceLeDiff, not_false_eq_true, ne_eq, beq_self_eq_true, Bool.true_eq_false, Bool.not_true, Bool.not_false, and_true, true_and, and_self, exists_prop, Nat.succ_ne_zero, Nat.reduceLT, Int.reduceNeg, Int.natCast_nonneg, Int.toNat_natCast, reduceCtorEq, imp_self, decide_true, decide_false, decide_eq_true_eq, decide_eq_false_iff_not, List.mem_cons, List.not_mem_nil, or_false, false_imp_iff, true_imp_iff, forall_const, implies_true]
 rfl) : p := e ▸ h
theorem call {T : Spec} {args : Bool → List AV} {o : AOut} {p : AOut → Prop} (h : T (args false) o) (k : p o) : ∃ b out, T (args b) out ∧ p out := ⟨false, o, h, k⟩
theorem both {p q A B : Prop} (h1 : p → A) (h2 : q → B) : (p → A) ∧ (q → B) := ⟨h1, h2⟩
def ins : Nat → ACode → ACode
 | 0, c => .seq .fgt c
 | n + 1, .seq a b => .seq a (ins n b)
 | _, c => c
theorem joinG {P : Program} {E : Env} {K : AEx → AS → Prop} {X : AV → Prop} {b : ACode} {id n : Nat} {l : List (AOper × Bool)} {st : AS} (S0 : AS) (h1 : awp P E b K S0) (h2 : runOps P E (fun s => Le E.hn S0 { s with nx := n }) X id l st) :
  runOps P E (fun s => awp P E (.seq .fgt b) K { s with nx := n }) X id l st := runOps_mono (fun s hle => ⟨S0, hle, h1⟩) (fun _ h => h) h2
theorem seqS {P : Program} {E : Env} {K : AEx → AS → Prop} {a b : ACode} {st : AS} (S0 : AS) (h1 : awp P E b K S0) (h2 : awp P E a (AEx.seq K fun s => Le E.hn S0 s) st) : awp P E (.seq a (.seq .fgt b)) K st :=
 awp_mono a (seq_mono (fun _ _ h => h) fun s hle => ⟨S0, hle, h1⟩) h2
theorem seqS2 {P : Program} {E : Env} {K : AEx → AS → Prop} {a a' b : ACode} {st : AS} (S0 : AS) (h1 : awp P E b K S0) (h2 : awp P E a (AEx.seq K fun s => awp P E a' (AEx.seq K fun s => Le E.hn S0 s) s) st) : awp P E (.seq a (.seq a' (.seq .fgt b))) K st :=
 awp_mono a (seq_mono (fun _ _ h => h) fun s h => seqS S0 h1 h) h2
theorem spl {P : Program} {E : Env} {K : AS → Prop} {X : AV → Prop} {id nx t : Nat} {d : Option Nat} {op : AOp} {z w b : Bool} {l : List (AOper × Bool)} {L : List (Nat × AV)} {bx : Nat → Option (List AV)} {gr : Gr} (h : tm L t = .s (.bool b))
  (h1 : b = true → runOps P E K X id ((⟨d, some (t, w), op⟩, z) :: l) ⟨tm L, bx, gr, nx⟩) (h2 : b = false → runOps P E K X id ((⟨d, some (t, w), op⟩, z) :: l) ⟨tm L, bx, gr, nx⟩) : runOps P E K X id ((⟨d, some (t, w), op⟩, z) :: l) ⟨tm L, bx, gr, nx⟩ := by
 cases b with
 | true => exact h1 rfl
 | false => exact h2 rfl
end Go.Proofs.YtnjmilelifmfpaaGreatDoor.Ev

namespace Go.Proofs.YtnjmilelifmfpaaGreatDoor.Ev
open Go Go.RowKit
def c57 : ACode := (.seq (.reg [b 0 (.alloc [(.int .i64 0), (.int .i64 0), (.string ⟨#[]⟩), (.slice none 0 0)]), b 1 (.mv (I 0))]) (.seq (.reg [b 2 (.bld [(.int .i64 0), (.int .i64 0), (.string ⟨#[]⟩), (.slice none 0 0)] [(0, (1, (I 9)))]), b0 (.st 4 (T 0) (T 2)), b 1 (.mv (I 4))]) .ret))
theorem k57 : ∃ code, Tryz.prog.funcs[57]? = some Tryz.f57 ∧ Tryz.f57.body = some code ∧ comp Tryz.prog Tryz.f57.ntmps code = some c57 ∧ rvs Tryz.prog Tryz.f57.results.toList = some [(.c true 4 0), (.t 1)] := ⟨_, Tryz.func57, rfl, by kernel_rfl, by kernel_rfl⟩
def c92 : ACode := (.seq (.reg [b 2 (.alloc [(.int .i64 0), (.int .i64 0), (.string ⟨#[]⟩), (.slice none 0 0)]), b 3 (.mv (I 0))]) (.seq (.reg [b 4 (.mv (S [70, 97, 108, 115, 101]))]) (.seq (.seq (.reg [b 5 (.mv (T 0))]) (.cond (T 5) (.reg [b 4 (.mv (S [84, 114, 117, 101]))]) .skip)) (.seq (.reg [b 6 (.mv (T 4)), b 7 (.bld [(.int .i64 0), (.int .i64 0), (.string ⟨#[]⟩), (.slice none 0 0)] [(0, (1, (I 4))), (2, (1, (T 6)))]), b0 (.st 4 (T 2) (T 7)), b 3 (.mv (I 3))]) .ret))))
theorem k92 : ∃ code, Tryz.prog.funcs[92]? = some Tryz.f92 ∧ Tryz.f92.body = some code ∧ comp Tryz.prog Tryz.f92.ntmps code = some c92 ∧ rvs Tryz.prog Tryz.f92.results.toList = some [(.c true 4 2), (.t 3)] := ⟨_, Tryz.func92, rfl, by kernel_rfl, by kernel_rfl⟩
def c62 : ACode := (.seq (.reg [b 6 (.alloc [(.int .i64 0), (.int .i64 0), (.string ⟨#[]⟩), (.slice none 0 0)]), b 7 (.mv (I 0))]) (.seq (.reg [b 8 (.mv (I 0))]) (.seq (.seq (.reg [b 9 (.mv (T 0))]) (.block 0 (.seq (.reg [b 11 (.sc (.bin .eql 9) [(T 9), (S [43])]), b 10 (.mv (T 11))]) (.cond (T 10) (.reg [b 12 (.mv (T 1)), b 13 (.mv (T 2)), b 14 (.sc (.bin .add 3) [(T 12), (T 13)]), b 8 (.mv (T 14))]) (.seq (.reg [b 16 (.sc (.bin .eql 9) [(T 9), (S [45])]), b 15 (.mv (T 16))]) (.cond (T 15) (.reg [b 17 (.mv (T 1)), b 18 (.mv (T 2)), b 19 (.sc (.bin .sub 3) [(T 17), (T 18)]), b 8 (.mv (T 19))]) (.seq (.reg [b 21 (.sc (.bin .eql 9) [(T 9), (S [42])]), b 20 (.mv (T 21))]) (.cond (T 20) (.reg [b 22 (.mv (T 1)), b 23 (.mv (T 2)), b 24 (.sc (.bin .mul 3) [(T 22), (T 23)]), b 8 (.mv (T 24))]) (.seq (.reg [b 26 (.sc (.bin .eql 9) [(T 9), (S [47])]), b 25 (.mv (T 26))]) (.cond (T 25) (.seq (.seq (.reg [b 27 (.mv (T 2)), b 28 (.sc (.bin .eql 3) [(T 27), (I 0)])]) (.cond (T 28) (.seq (.reg [b 29 (.call 57 []), b 30 (.ex (T 29) 0), b 31 (.ex (T 29) 1), b0 (.st 4 (T 6) (T 30)), b 7 (.mv (T 31))]) .ret) .skip)) (.reg [b 32 (.mv (T 1)), b 33 (.mv (T 2)), b 34 (.sc (.bin .quo 3) [(T 32), (T 33)]), b 8 (.mv (T 34))])) (.seq (.reg [b 36 (.sc (.bin .eql 9) [(T 9), (S [60])]), b 35 (.mv (T 36))]) (.cond (T 35) (.seq (.reg [b 37 (.mv (T 1)), b 38 (.mv (T 2)), b 39 (.sc (.bin .lss 3) [(T 37), (T 38)]), b 40 (.call 92 [(T 39)]), b 41 (.ex (T 40) 0), b 42 (.ex (T 40) 1), b0 (.st 4 (T 6) (T 41)), b 7 (.mv (T 42))]) .ret) (.seq (.reg [b 44 (.sc (.bin .eql 9) [(T 9), (S [61, 61])]), b 43 (.mv (T 44))]) (.cond (T 43) (.seq (.reg [b 45 (.mv (T 1)), b 46 (.mv (T 2)), b 47 (.sc (.bin .eql 3) [(T 45), (T 46)]), b 48 (.call 92 [(T 47)]), b 49 (.ex (T 48) 0), b 50 (.ex (T 48) 1), b0 (.st 4 (T 6) (T 49)), b 7 (.mv (T 50))]) .ret) .skip)))))))))))))) (.seq (.reg [b 51 (.mv (T 8)), b 52 (.bld [(.int .i64 0), (.int .i64 0), (.string ⟨#[]⟩), (.slice none 0 0)] [(0, (1, (I 7))), (1, (1, (T 51)))]), b0 (.st 4 (T 6) (T 52)), b 7 (.mv (I 3))]) .ret))))
theorem k62 : ∃ code, Tryz.prog.funcs[62]? = some Tryz.f62 ∧ Tryz.f62.body = some code ∧ comp Tryz.prog Tryz.f62.ntmps code = some c62 ∧ rvs Tryz.prog Tryz.f62.results.toList = some [(.c true 4 6), (.t 7)] := ⟨_, Tryz.func62, rfl, by kernel_rfl, by kernel_rfl⟩
def c36 : ACode := (.seq (.reg [b 1 (.box (T 0)), b 2 (.alloc [(.int .i64 0), (.int .i64 0), (.string ⟨#[]⟩), (.slice none 0 0)]), b 3 (.mv (I 0))]) (.seq (.seq (.reg [b 5 (.fa 3 (T 1)), b 6 (.ld false 1 (T 5)), b 7 (.ia 4 (T 6) (I 0)), b 8 (.ld true 4 (T 7)), b 4 (.alloc [(.int .i64 0), (.int .i64 0), (.string ⟨#[]⟩), (.slice none 0 0)]), b0 (.st 4 (T 4) (T 8))]) (.seq (.reg [b 9 (.fa 0 (T 4)), b 10 (.ld false 1 (T 9))]) (.block 0 (.seq (.reg [b 12 (.sc (.bin .eql 3) [(T 10), (I 2)]), b 11 (.mv (T 12))]) (.cond (T 11) (.seq (.reg [a 13 (.fa 3 (T 4)), a 14 (.ld false 1 (T 13)), a 15 (.ia 4 (T 14) (I 0)), a 16 (.ld true 4 (T 15)), b 17 (.fa 3 (T 1)), b 18 (.ld false 1 (T 17)), b 19 (.ia 4 (T 18) (I 1)), b 20 (.ld true 4 (T 19)), b 21 (.call 56 [(T 16), (I 0), (T 20)]), b0 (.st 4 (T 2) (T 21)), b 3 (.mv (I 1))]) .ret) (.seq (.seq (.reg [b 23 (.sc (.bin .eql 3) [(T 10), (I 4)]), b 22 (.mv (T 23))]) (.cond (T 22) .skip (.seq (.reg [b 24 (.sc (.bin .eql 3) [(T 10), (I 7)]), b 22 (.mv (T 24))]) (.cond (T 22) .skip (.reg [b 25 (.sc (.bin .eql 3) [(T 10), (I 9)]), b 22 (.mv (T 25))]))))) (.cond (T 22) (.seq (.reg [b 26 (.call 57 []), b 27 (.ex (T 26) 0), b 28 (.ex (T 26) 1), b0 (.st 4 (T 2) (T 27)), b 3 (.mv (T 28))]) .ret) .skip))))))) (.seq (.reg [b 29 (.ld true 4 (T 1)), b 30 (.call 58 [(T 29), (I 0)]), b 31 (.ex (T 30) 0), b 32 (.ex (T 30) 1), b0 (.st 4 (T 2) (T 31)), b 3 (.mv (T 32))]) .ret)))
theorem k36 : ∃ code, Tryz.prog.funcs[36]? = some Tryz.f36 ∧ Tryz.f36.body = some code ∧ comp Tryz.prog Tryz.f36.ntmps code = some c36 ∧ rvs Tryz.prog Tryz.f36.results.toList = some [(.c true 4 2), (.t 3)] := ⟨_, Tryz.func36, rfl, by kernel_rfl, by kernel_rfl⟩
def c37 : ACode := (.seq (.reg [b 1 (.box (T 0)), b 2 (.alloc [(.int .i64 0), (.int .i64 0), (.string ⟨#[]⟩), (.slice none 0 0)]), b 3 (.mv (I 0))]) (.seq (.reg [b 6 (.fa 3 (T 1)), b 7 (.ld false 1 (T 6)), b 8 (.ia 4 (T 7) (I 0)), b 9 (.ld true 4 (T 8)), b 4 (.alloc [(.int .i64 0), (.int .i64 0), (.string ⟨#[]⟩), (.slice none 0 0)]), b0 (.st 4 (T 4) (T 9))]) (.seq (.seq (.reg [b 10 (.fa 0 (T 4)), b 11 (.ld false 1 (T 10))]) (.block 0 (.seq (.seq (.reg [b 13 (.sc (.bin .eql 3) [(T 11), (I 2)]), b 12 (.mv (T 13))]) (.cond (T 12) .skip (.seq (.reg [b 14 (.sc (.bin .eql 3) [(T 11), (I 7)]), b 12 (.mv (T 14))]) (.cond (T 12) .skip (.reg [b 15 (.sc (.bin .eql 3) [(T 11), (I 9)]), b 12 (.mv (T 15))]))))) (.cond (T 12) (.seq (.reg [b 16 (.call 57 []), b 17 (.ex (T 16) 0), b 18 (.ex (T 16) 1), b0 (.st 4 (T 2) (T 17)), b 3 (.mv (T 18))]) .ret) (.seq (.reg [b 20 (.sc (.bin .eql 3) [(T 11), (I 4)]), b 19 (.mv (T 20))]) (.cond (T 19) (.seq (.reg [b 21 (.fa 3 (T 1)), b 22 (.ld false 1 (T 21)), b 23 (.rs 4 (T 22) (some (I 1)) none), b 24 (.clo 60 [] [(T 4)]), b 25 (.callh (.func 59) [(T 23), (T 24)]), b 5 (.mv (T 25))]) (.seq (.seq (.reg [b 26 (.mv (T 5)), b 27 (.sc (.bin .lss 3) [(T 26), (I 0)])]) (.cond (T 27) (.seq (.reg [b 28 (.call 57 []), b 29 (.ex (T 28) 0), b 30 (.ex (T 28) 1), b0 (.st 4 (T 2) (T 29)), b 3 (.mv (T 30))]) .ret) .skip)) (.seq (.reg [a 31 (.fa 3 (T 1)), a 32 (.ld false 1 (T 31)), a 33 (.mv (T 5)), a 34 (.sc (.bin .add 3) [(I 1), (T 33)]), a 35 (.ia 4 (T 32) (T 34)), a 36 (.fa 3 (T 35)), a 37 (.ld false 1 (T 36)), a 38 (.ia 4 (T 37) (I 0)), a 39 (.ld true 4 (T 38)), b 40 (.fa 3 (T 4)), b 41 (.ld false 1 (T 40)), b 42 (.call 61 [(T 39), (T 41)]), b0 (.st 4 (T 2) (T 42)), b 3 (.mv (I 2))]) .ret))) .skip)))))) (.seq (.reg [b 43 (.ld true 4 (T 1)), b 44 (.call 58 [(T 43), (I 0)]), b 45 (.ex (T 44) 0), b 46 (.ex (T 44) 1), b0 (.st 4 (T 2) (T 45)), b 3 (.mv (T 46))]) .ret))))
theorem k37 : ∃ code, Tryz.prog.funcs[37]? = some Tryz.f37 ∧ Tryz.f37.body = some code ∧ comp Tryz.prog Tryz.f37.ntmps code = some c37 ∧ rvs Tryz.prog Tryz.f37.results.toList = some [(.c true 4 2), (.t 3)] := ⟨_, Tryz.func37, rfl, by kernel_rfl, by kernel_rfl⟩
def c38 : ACode := (.seq (.reg [b 1 (.box (T 0)), b 2 (.alloc [(.int .i64 0), (.int .i64 0), (.string ⟨#[]⟩), (.slice none 0 0)]), b 3 (.mv (I 0))]) (.seq (.seq (.reg [b 6 (.fa 3 (T 1)), b 7 (.ld false 1 (T 6)), b 8 (.ln (T 7)), b 9 (.mv (I 0))]) (.block 0 (.loop (.seq (.reg [b 10 (.sc (.bin .lss 3) [(T 9), (T 8)])]) (.seq (.cond (T 10) .skip (.exit 0)) (.seq (.block 1 (.seq (.reg [b 11 (.mv (T 9)), b 12 (.ia 4 (T 7) (T 9)), b 13 (.ld true 4 (T 12)), b 5 (.alloc [(.int .i64 0), (.int .i64 0), (.string ⟨#[]⟩), (.slice none 0 0)]), b 4 (.mv (T 11)), b0 (.st 4 (T 5) (T 13))]) (.seq (.seq (.reg [b 14 (.fa 0 (T 5)), b 15 (.ld false 1 (T 14))]) (.block 2 (.seq (.seq (.reg [b 17 (.sc (.bin .eql 3) [(T 15), (I 2)]), b 16 (.mv (T 17))]) (.cond (T 16) .skip (.seq (.reg [b 18 (.sc (.bin .eql 3) [(T 15), (I 4)]), b 16 (.mv (T 18))]) (.cond (T 16) .skip (.reg [b 19 (.sc (.bin .eql 3) [(T 15), (I 9)]), b 16 (.mv (T 19))]))))) (.cond (T 16) (.seq (.reg [b 20 (.call 57 []), b 21 (.ex (T 20) 0), b 22 (.ex (T 20) 1), b0 (.st 4 (T 2) (T 21)), b 3 (.mv (T 22))]) .ret) (.seq (.reg [b 24 (.sc (.bin .eql 3) [(T 15), (I 7)]), b 23 (.mv (T 24))]) (.cond (T 23) (.exit 1) .skip)))))) (.seq (.reg [b 25 (.ld true 4 (T 1)), b 26 (.mv (T 4)), b 27 (.call 58 [(T 25), (T 26)]), b 28 (.ex (T 27) 0), b 29 (.ex (T 27) 1), b0 (.st 4 (T 2) (T 28)), b 3 (.mv (T 29))]) .ret)))) (.reg [b 30 (.sc (.bin .add 3) [(T 9), (I 1)]), b 9 (.mv (T 30))]))))))) (.seq (.reg [a 31 (.fa 2 (T 1)), a 32 (.ld false 1 (T 31)), a 33 (.fa 3 (T 1)), a 34 (.ld false 1 (T 33)), a 35 (.ia 4 (T 34) (I 0)), a 36 (.fa 1 (T 35)), a 37 (.ld false 1 (T 36)), b 38 (.fa 3 (T 1)), b 39 (.ld false 1 (T 38)), b 40 (.ia 4 (T 39) (I 1)), b 41 (.fa 1 (T 40)), b 42 (.ld false 1 (T 41)), b 43 (.call 62 [(T 32), (T 37), (T 42)]), a 44 (.ex (T 43) 0), b 45 (.ex (T 43) 1), b0 (.st 4 (T 2) (T 44)), b 3 (.mv (T 45))]) .ret)))
theorem k38 : ∃ code, Tryz.prog.funcs[38]? = some Tryz.f38 ∧ Tryz.f38.body = some code ∧ comp Tryz.prog Tryz.f38.ntmps code = some c38 ∧ rvs Tryz.prog Tryz.f38.results.toList = some [(.c true 4 2), (.t 3)] := ⟨_, Tryz.func38, rfl, by kernel_rfl, by kernel_rfl⟩
def c22 : ACode := (.seq (.reg [b 1 (.box (T 0)), b 2 (.alloc [(.int .i64 0), (.int .i64 0), (.string ⟨#[]⟩), (.slice none 0 0)]), b 3 (.mv (I 0))]) (.seq (.seq (.reg [b 4 (.fa 0 (T 1)), b 5 (.ld false 1 (T 4))]) (.block 0 (.seq (.reg [b 7 (.sc (.bin .eql 3) [(T 5), (I 3)]), b 6 (.mv (T 7))]) (.cond (T 6) (.seq (.reg [b 8 (.ld true 4 (T 1)), b 9 (.call 36 [(T 8)]), b 10 (.ex (T 9) 0), b 11 (.ex (T 9) 1), b0 (.st 4 (T 2) (T 10)), b 3 (.mv (T 11))]) .ret) (.seq (.reg [b 13 (.sc (.bin .eql 3) [(T 5), (I 5)]), b 12 (.mv (T 13))]) (.cond (T 12) (.seq (.reg [b 14 (.ld true 4 (T 1)), b 15 (.call 37 [(T 14)]), b 16 (.ex (T 15) 0), b 17 (.ex (T 15) 1), b0 (.st 4 (T 2) (T 16)), b 3 (.mv (T 17))]) .ret) (.seq (.reg [b 19 (.sc (.bin .eql 3) [(T 5), (I 8)]), b 18 (.mv (T 19))]) (.cond (T 18) (.seq (.reg [b 20 (.ld true 4 (T 1)), b 21 (.call 38 [(T 20)]), b 22 (.ex (T 21) 0), b 23 (.ex (T 21) 1), b0 (.st 4 (T 2) (T 22)), b 3 (.mv (T 23))]) .ret) .skip)))))))) (.seq (.reg [b 24 (.ld true 4 (T 1)), b0 (.st 4 (T 2) (T 24)), b 3 (.mv (I 0))]) .ret)))
theorem k22 : ∃ code, Tryz.prog.funcs[22]? = some Tryz.f22 ∧ Tryz.f22.body = some code ∧ comp Tryz.prog Tryz.f22.ntmps code = some c22 ∧ rvs Tryz.prog Tryz.f22.results.toList = some [(.c true 4 2), (.t 3)] := ⟨_, Tryz.func22, rfl, by kernel_rfl, by kernel_rfl⟩
def c60 : ACode := (.seq (.reg [b 2 (.box (T 0)), b 3 (.mv (B false))]) (.seq (.reg [b 4 (.fa 2 (T 2)), b 5 (.ld false 1 (T 4)), b 6 (.fa 2 (T 1)), b 7 (.ld false 1 (T 6)), b 8 (.sc (.bin .eql 9) [(T 5), (T 7)]), b 9 (.mv (T 8)), bg 10 9 true (.fa 1 (T 2)), bg 11 9 true (.ld false 1 (T 10)), bg 12 9 true (.fa 3 (T 1)), bg 13 9 true (.ld false 1 (T 12)), bg 14 9 true (.ln (T 13)), bg 15 9 true (.sc (.bin .eql 3) [(T 11), (T 14)]), b 16 (.pick (T 9) (T 15) (B false)), b 3 (.mv (T 16))]) .ret))
theorem k60 : ∃ code, Tryz.prog.funcs[60]? = some Tryz.f60 ∧ Tryz.f60.body = some code ∧ comp Tryz.prog Tryz.f60.ntmps code = some c60 ∧ rvs Tryz.prog Tryz.f60.results.toList = some [(.t 3)] := ⟨_, Tryz.func60, rfl, by kernel_rfl, by kernel_rfl⟩
end Go.Proofs.YtnjmilelifmfpaaGreatDoor.Ev

namespace Go.Proofs.YtnjmilelifmfpaaGreatDoor.Ev
open Go Go.RowKit
def c86 : ACode := (.seq (.reg [b 3 (.box (T 0)), b 6 (.alloc [(.int .i64 0), (.int .i64 0), (.string ⟨#[]⟩), (.slice none 0 0)])]) (.seq (.seq (.reg [b 10 (.fa 0 (T 3)), b 11 (.ld false 1 (T 10))]) (.block 0 (.seq (.reg [b 13 (.sc (.bin .eql 3) [(T 11), (I 1)]), b 12 (.mv (T 13))]) (.cond (T 12) (.seq (.reg [b 14 (.mv (T 2)), b 15 (.ld true 4 (T 3)), b 16 (.mv (T 1)), b 17 (.callh (T 14) [(T 15), (T 16)]), b0 (.st 4 (T 6) (T 17))]) .ret) (.seq (.reg [b 19 (.sc (.bin .eql 3) [(T 11), (I 2)]), b 18 (.mv (T 19))]) (.cond (T 18) (.reg [b 20 (.mv (T 1)), b 21 (.sc (.bin .add 3) [(T 20), (I 1)]), b 1 (.mv (T 21))]) (.seq (.reg [b 23 (.sc (.bin .eql 3) [(T 11), (I 6)]), b 22 (.mv (T 23))]) (.cond (T 22) (.reg [b 24 (.mv (T 1)), b 25 (.fa 1 (T 3)), b 26 (.ld false 1 (T 25)), b 27 (.sc (.bin .add 3) [(T 24), (T 26)]), b 1 (.mv (T 27))]) .skip)))))))) (.seq (.reg [b 28 (.fa 3 (T 3)), b 29 (.ld false 1 (T 28)), b 30 (.ln (T 29)), b 31 (.mks 24 4 56 [(.int .i64 0), (.int .i64 0), (.string ⟨#[]⟩), (.slice none 0 0)] (T 30)), b 7 (.mv (T 31))]) (.seq (.seq (.reg [b 32 (.fa 3 (T 3)), b 33 (.ld false 1 (T 32)), b 34 (.ln (T 33)), b 35 (.mv (I 0))]) (.block 1 (.loop (.seq (.reg [b 36 (.sc (.bin .lss 3) [(T 35), (T 34)])]) (.seq (.cond (T 36) .skip (.exit 1)) (.seq (.block 2 (.seq (.reg [b 37 (.mv (T 35)), b 38 (.ia 4 (T 33) (T 35)), b 39 (.ld true 4 (T 38)), b 9 (.alloc [(.int .i64 0), (.int .i64 0), (.string ⟨#[]⟩), (.slice none 0 0)]), b 8 (.mv (T 37)), b0 (.st 4 (T 9) (T 39))]) (.reg [b 40 (.mv (T 7)), b 41 (.mv (T 8)), b 42 (.ld true 4 (T 9)), b 43 (.mv (T 1)), b 44 (.mv (T 2)), b 45 (.callh (.func 86) [(T 42), (T 43), (T 44)]), b 46 (.ia 4 (T 40) (T 41)), b0 (.st 4 (T 46) (T 45))]))) (.reg [b 47 (.sc (.bin .add 3) [(T 35), (I 1)]), b 35 (.mv (T 47))]))))))) (.seq (.reg [b 48 (.mv (T 7)), b 49 (.fa 3 (T 3)), b0 (.st 1 (T 49) (T 48))]) (.seq (.reg [b 50 (.ld true 4 (T 3)), b0 (.st 4 (T 6) (T 50))]) .ret))))))
theorem k86 : ∃ code, Tryz.prog.funcs[86]? = some Tryz.f86 ∧ Tryz.f86.body = some code ∧ comp Tryz.prog Tryz.f86.ntmps code = some c86 ∧ rvs Tryz.prog Tryz.f86.results.toList = some [(.c true 4 6)] := ⟨_, Tryz.func86, rfl, by kernel_rfl, by kernel_rfl⟩
def c89 : ACode := (.seq (.reg [b 2 (.box (T 0)), b 4 (.alloc [(.int .i64 0), (.int .i64 0), (.string ⟨#[]⟩), (.slice none 0 0)])]) (.seq (.reg [b 5 (.fa 1 (T 2)), b 6 (.ld false 1 (T 5)), b 7 (.mv (T 1)), b 8 (.sc (.bin .add 3) [(T 6), (T 7)]), b 9 (.fa 1 (T 2)), b0 (.st 1 (T 9) (T 8))]) (.seq (.reg [b 10 (.ld true 4 (T 2)), b0 (.st 4 (T 4) (T 10))]) .ret)))
theorem k89 : ∃ code, Tryz.prog.funcs[89]? = some Tryz.f89 ∧ Tryz.f89.body = some code ∧ comp Tryz.prog Tryz.f89.ntmps code = some c89 ∧ rvs Tryz.prog Tryz.f89.results.toList = some [(.c true 4 4)] := ⟨_, Tryz.func89, rfl, by kernel_rfl, by kernel_rfl⟩
def c88 : ACode := (.seq (.reg [b 3 (.box (T 0)), b 4 (.box (T 1)), b 5 (.box (T 2)), b 6 (.alloc [(.int .i64 0), (.int .i64 0), (.string ⟨#[]⟩), (.slice none 0 0)])]) (.seq (.reg [b 7 (.ld true 4 (T 3)), b 8 (.clo 124 [] [(T 5), (T 4)]), b 9 (.callh (.func 86) [(T 7), (I 0), (T 8)]), b0 (.st 4 (T 6) (T 9))]) .ret))
theorem k88 : ∃ code, Tryz.prog.funcs[88]? = some Tryz.f88 ∧ Tryz.f88.body = some code ∧ comp Tryz.prog Tryz.f88.ntmps code = some c88 ∧ rvs Tryz.prog Tryz.f88.results.toList = some [(.c true 4 6)] := ⟨_, Tryz.func88, rfl, by kernel_rfl, by kernel_rfl⟩
def c124 : ACode := (.seq (.reg [b 4 (.box (T 0)), b 6 (.alloc [(.int .i64 0), (.int .i64 0), (.string ⟨#[]⟩), (.slice none 0 0)])]) (.seq (.seq (.reg [b 7 (.fa 1 (T 4)), b 8 (.ld false 1 (T 7)), b 9 (.ld false 1 (T 2)), b 10 (.mv (T 1)), b 11 (.sc (.bin .add 3) [(T 9), (T 10)]), b 12 (.sc (.bin .geq 3) [(T 8), (T 11)])]) (.cond (T 12) (.seq (.reg [b 13 (.ld true 4 (T 4)), b 14 (.ld false 1 (T 3)), b 15 (.call 89 [(T 13), (T 14)]), b0 (.st 4 (T 6) (T 15))]) .ret) .skip)) (.seq (.reg [b 16 (.ld true 4 (T 4)), b0 (.st 4 (T 6) (T 16))]) .ret)))
theorem k124 : ∃ code, Tryz.prog.funcs[124]? = some Tryz.f124 ∧ Tryz.f124.body = some code ∧ comp Tryz.prog Tryz.f124.ntmps code = some c124 ∧ rvs Tryz.prog Tryz.f124.results.toList = some [(.c true 4 6)] := ⟨_, Tryz.func124, rfl, by kernel_rfl, by kernel_rfl⟩
def c56 : ACode := (.seq (.reg [b 3 (.box (T 0)), b 4 (.box (T 1)), b 5 (.box (T 2)), b 6 (.alloc [(.int .i64 0), (.int .i64 0), (.string ⟨#[]⟩), (.slice none 0 0)])]) (.seq (.reg [b 7 (.ld true 4 (T 3)), b 8 (.clo 87 [] [(T 4), (T 5)]), b 9 (.callh (.func 86) [(T 7), (I 0), (T 8)]), b0 (.st 4 (T 6) (T 9))]) .ret))
theorem k56 : ∃ code, Tryz.prog.funcs[56]? = some Tryz.f56 ∧ Tryz.f56.body = some code ∧ comp Tryz.prog Tryz.f56.ntmps code = some c56 ∧ rvs Tryz.prog Tryz.f56.results.toList = some [(.c true 4 6)] := ⟨_, Tryz.func56, rfl, by kernel_rfl, by kernel_rfl⟩
def c87 : ACode := (.seq (.reg [b 4 (.box (T 0)), b 6 (.alloc [(.int .i64 0), (.int .i64 0), (.string ⟨#[]⟩), (.slice none 0 0)])]) (.seq (.block 0 (.seq (.reg [b 8 (.fa 1 (T 4)), b 9 (.ld false 1 (T 8)), b 10 (.ld false 1 (T 2)), b 11 (.mv (T 1)), b 12 (.sc (.bin .add 3) [(T 10), (T 11)]), b 13 (.sc (.bin .eql 3) [(T 9), (T 12)]), b 7 (.mv (T 13))]) (.cond (T 7) (.seq (.reg [b 14 (.ld true 4 (T 3)), b 15 (.mv (T 1)), b 16 (.call 88 [(T 14), (T 15), (I 0)]), b0 (.st 4 (T 6) (T 16))]) .ret) (.seq (.reg [b 18 (.fa 1 (T 4)), b 19 (.ld false 1 (T 18)), b 20 (.ld false 1 (T 2)), b 21 (.mv (T 1)), b 22 (.sc (.bin .add 3) [(T 20), (T 21)]), b 23 (.sc (.bin .gtr 3) [(T 19), (T 22)]), b 17 (.mv (T 23))]) (.cond (T 17) (.seq (.reg [b 24 (.ld true 4 (T 4)), b 25 (.call 89 [(T 24), (I (-1))]), b0 (.st 4 (T 6) (T 25))]) .ret) .skip))))) (.seq (.reg [b 26 (.ld true 4 (T 4)), b0 (.st 4 (T 6) (T 26))]) .ret)))
theorem k87 : ∃ code, Tryz.prog.funcs[87]? = some Tryz.f87 ∧ Tryz.f87.body = some code ∧ comp Tryz.prog Tryz.f87.ntmps code = some c87 ∧ rvs Tryz.prog Tryz.f87.results.toList = some [(.c true 4 6)] := ⟨_, Tryz.func87, rfl, by kernel_rfl, by kernel_rfl⟩
def c61 : ACode := (.seq (.reg [b 2 (.box (T 0)), b 3 (.box (T 1)), b 4 (.alloc [(.int .i64 0), (.int .i64 0), (.string ⟨#[]⟩), (.slice none 0 0)])]) (.seq (.reg [b 5 (.ld true 4 (T 2)), b 6 (.clo 91 [] [(T 3)]), b 7 (.callh (.func 86) [(T 5), (I 0), (T 6)]), b0 (.st 4 (T 4) (T 7))]) .ret))
theorem k61 : ∃ code, Tryz.prog.funcs[61]? = some Tryz.f61 ∧ Tryz.f61.body = some code ∧ comp Tryz.prog Tryz.f61.ntmps code = some c61 ∧ rvs Tryz.prog Tryz.f61.results.toList = some [(.c true 4 4)] := ⟨_, Tryz.func61, rfl, by kernel_rfl, by kernel_rfl⟩
def c91 : ACode := (.seq (.reg [b 3 (.box (T 0)), b 5 (.alloc [(.int .i64 0), (.int .i64 0), (.string ⟨#[]⟩), (.slice none 0 0)])]) (.seq (.reg [b 7 (.fa 1 (T 3)), b 8 (.ld false 1 (T 7)), b 9 (.mv (T 1)), b 10 (.sc (.bin .sub 3) [(T 8), (T 9)]), b 6 (.mv (T 10))]) (.seq (.block 0 (.seq (.reg [b 12 (.mv (T 6)), b 13 (.sc (.bin .lss 3) [(T 12), (I 0)]), b 11 (.mv (T 13))]) (.cond (T 11) (.seq (.reg [b 14 (.ld true 4 (T 3)), b0 (.st 4 (T 5) (T 14))]) .ret) (.seq (.reg [b 16 (.mv (T 6)), b 17 (.ld false 1 (T 2)), b 18 (.ln (T 17)), b 19 (.sc (.bin .lss 3) [(T 16), (T 18)]), b 15 (.mv (T 19))]) (.cond (T 15) (.seq (.reg [b 20 (.ld false 1 (T 2)), b 21 (.ld false 1 (T 2)), b 22 (.ln (T 21)), b 23 (.sc (.bin .sub 3) [(T 22), (I 1)]), b 24 (.mv (T 6)), b 25 (.sc (.bin .sub 3) [(T 23), (T 24)]), b 26 (.ia 4 (T 20) (T 25)), b 27 (.ld true 4 (T 26)), b 28 (.mv (T 1)), b 29 (.call 88 [(T 27), (T 28), (I 0)]), b0 (.st 4 (T 5) (T 29))]) .ret) .skip))))) (.seq (.reg [b 30 (.ld true 4 (T 3)), b 31 (.ld false 1 (T 2)), b 32 (.ln (T 31)), b 33 (.sc (.un .neg) [(T 32)]), b 34 (.call 89 [(T 30), (T 33)]), b0 (.st 4 (T 5) (T 34))]) .ret))))
theorem k91 : ∃ code, Tryz.prog.funcs[91]? = some Tryz.f91 ∧ Tryz.f91.body = some code ∧ comp Tryz.prog Tryz.f91.ntmps code = some c91 ∧ rvs Tryz.prog Tryz.f91.results.toList = some [(.c true 4 5)] := ⟨_, Tryz.func91, rfl, by kernel_rfl, by kernel_rfl⟩
end Go.Proofs.YtnjmilelifmfpaaGreatDoor.Ev

namespace Go.Proofs.YtnjmilelifmfpaaGreatDoor.Ev
open Go Go.RowKit
def c21 : ACode := (.seq (.reg [b 2 (.box (T 0)), b 4 (.mv (B false))]) (.seq (.reg [b 6 (.fa 3 (T 2)), b 7 (.ld false 1 (T 6)), b 8 (.ln (T 7)), b 5 (.mv (T 8))]) (.seq (.seq (.reg [b 9 (.fa 0 (T 2)), b 10 (.ld false 1 (T 9))]) (.block 0 (.seq (.reg [b 12 (.sc (.bin .eql 3) [(T 10), (I 1)]), b 11 (.mv (T 12))]) (.cond (T 11) (.seq (.reg [b 13 (.mv (T 5)), b 14 (.sc (.bin .eql 3) [(T 13), (I 0)]), b 15 (.mv (T 14)), bg 16 15 true (.fa 2 (T 2)), bg 17 15 true (.ld false 1 (T 16)), bg 18 15 true (.sc (.bin .eql 9) [(T 17), (S [])]), b 19 (.pick (T 15) (T 18) (B false)), b 20 (.mv (T 19)), bg 21 20 true (.fa 1 (T 2)), bg 22 20 true (.ld false 1 (T 21)), bg 23 20 true (.mv (T 1)), bg 24 20 true (.sc (.bin .sub 3) [(T 23), (I 1)]), bg 25 20 true (.call 30 [(T 22), (I 0), (T 24)]), b 26 (.pick (T 20) (T 25) (B false)), b 4 (.mv (T 26))]) .ret) (.seq (.reg [b 28 (.sc (.bin .eql 3) [(T 10), (I 7)]), b 27 (.mv (T 28))]) (.cond (T 27) (.seq (.reg [b 29 (.mv (T 5)), b 30 (.sc (.bin .eql 3) [(T 29), (I 0)]), b 31 (.mv (T 30)), bg 32 31 true (.fa 2 (T 2)), bg 33 31 true (.ld false 1 (T 32)), bg 34 31 true (.sc (.bin .eql 9) [(T 33), (S [])]), b 35 (.pick (T 31) (T 34) (B false)), b 36 (.mv (T 35)), bg 37 36 true (.mv (T 1)), bg 38 36 true (.sc (.bin .geq 3) [(T 37), (I 0)]), b 39 (.pick (T 36) (T 38) (B false)), b 4 (.mv (T 39))]) .ret) (.seq (.reg [b 41 (.sc (.bin .eql 3) [(T 10), (I 9)]), b 40 (.mv (T 41))]) (.cond (T 40) (.seq (.reg [b 42 (.mv (T 5)), b 43 (.sc (.bin .eql 3) [(T 42), (I 0)]), b 44 (.mv (T 43)), bg 45 44 true (.ld true 4 (T 2)), bg 46 44 true (.call 31 [(T 45)]), b 47 (.pick (T 44) (T 46) (B false)), b 48 (.mv (T 47)), bg 49 48 true (.mv (T 1)), bg 50 48 true (.sc (.bin .geq 3) [(T 49), (I 0)]), b 51 (.pick (T 48) (T 50) (B false)), b 4 (.mv (T 51))]) .ret) (.seq (.reg [b 53 (.sc (.bin .eql 3) [(T 10), (I 2)]), b 52 (.mv (T 53))]) (.cond (T 52) (.seq (.reg [b 54 (.mv (T 5)), b 55 (.sc (.bin .eql 3) [(T 54), (I 1)]), b 56 (.mv (T 55)), bg 57 56 true (.ld true 4 (T 2)), bg 58 56 true (.call 31 [(T 57)]), b 59 (.pick (T 56) (T 58) (B false)), b 60 (.mv (T 59)), bg 61 60 true (.mv (T 1)), bg 62 60 true (.sc (.bin .geq 3) [(T 61), (I 0)]), b 63 (.pick (T 60) (T 62) (B false)), b 64 (.mv (T 63)), bg 65 64 true (.fa 3 (T 2)), bg 66 64 true (.ld false 1 (T 65)), bg 67 64 true (.mv (T 1)), bg 68 64 true (.sc (.bin .add 3) [(T 67), (I 1)]), bg 69 64 true (.call 32 [(T 66), (T 68)]), b 70 (.pick (T 64) (T 69) (B false)), b 4 (.mv (T 70))]) .ret) (.seq (.reg [b 72 (.sc (.bin .eql 3) [(T 10), (I 3)]), b 71 (.mv (T 72))]) (.cond (T 71) (.seq (.reg [b 73 (.mv (T 5)), b 74 (.sc (.bin .eql 3) [(T 73), (I 2)]), b 75 (.mv (T 74)), bg 76 75 true (.ld true 4 (T 2)), bg 77 75 true (.call 31 [(T 76)]), b 78 (.pick (T 75) (T 77) (B false)), b 79 (.mv (T 78)), bg 80 79 true (.fa 3 (T 2)), bg 81 79 true (.ld false 1 (T 80)), bg 82 79 true (.mv (T 1)), bg 83 79 true (.call 32 [(T 81), (T 82)]), b 84 (.pick (T 79) (T 83) (B false)), b 4 (.mv (T 84))]) .ret) (.seq (.reg [b 86 (.sc (.bin .eql 3) [(T 10), (I 8)]), b 85 (.mv (T 86))]) (.cond (T 85) (.seq (.reg [b 87 (.mv (T 5)), b 88 (.sc (.bin .eql 3) [(T 87), (I 2)]), b 89 (.mv (T 88)), bg 90 89 true (.fa 1 (T 2)), bg 91 89 true (.ld false 1 (T 90)), bg 92 89 true (.sc (.bin .eql 3) [(T 91), (I 0)]), b 93 (.pick (T 89) (T 92) (B false)), b 94 (.mv (T 93)), bg 95 94 true (.fa 2 (T 2)), bg 96 94 true (.ld false 1 (T 95)), bg 97 94 true (.call 33 [(T 96)]), b 98 (.pick (T 94) (T 97) (B false)), b 99 (.mv (T 98)), bg 100 99 true (.fa 3 (T 2)), bg 101 99 true (.ld false 1 (T 100)), bg 102 99 true (.mv (T 1)), bg 103 99 true (.call 32 [(T 101), (T 102)]), b 104 (.pick (T 99) (T 103) (B false)), b 4 (.mv (T 104))]) .ret) (.seq (.reg [b 106 (.sc (.bin .eql 3) [(T 10), (I 4)]), b 105 (.mv (T 106))]) (.cond (T 105) (.seq (.reg [b 107 (.mv (T 5)), b 108 (.sc (.bin .leq 3) [(T 107), (I 8)]), b 109 (.mv (T 108)), bg 110 109 true (.fa 1 (T 2)), bg 111 109 true (.ld false 1 (T 110)), bg 112 109 true (.sc (.bin .eql 3) [(T 111), (I 0)]), b 113 (.pick (T 109) (T 112) (B false)), b 114 (.mv (T 113)), bg 115 114 true (.fa 2 (T 2)), bg 116 114 true (.ld false 1 (T 115)), bg 117 114 true (.call 34 [(T 116)]), b 118 (.pick (T 114) (T 117) (B false)), b 119 (.mv (T 118)), bg 120 119 true (.mv (T 1)), bg 121 119 true (.sc (.bin .geq 3) [(T 120), (I 0)]), b 122 (.pick (T 119) (T 121) (B false)), b 123 (.mv (T 122)), bg 124 123 true (.fa 3 (T 2)), bg 125 123 true (.ld false 1 (T 124)), bg 126 123 true (.mv (T 1)), bg 127 123 true (.call 32 [(T 125), (T 126)]), b 128 (.pick (T 123) (T 127) (B false)), b 4 (.mv (T 128))]) .ret) (.seq (.reg [b 130 (.sc (.bin .eql 3) [(T 10), (I 5)]), b 129 (.mv (T 130))]) (.cond (T 129) (.seq (.reg [b 131 (.mv (T 5)), b 132 (.sc (.bin .geq 3) [(T 131), (I 2)]), b 133 (.mv (T 132)), bg 134 133 true (.ld true 4 (T 2)), bg 135 133 true (.call 31 [(T 134)]), b 136 (.pick (T 133) (T 135) (B false)), b 137 (.mv (T 136)), bg 138 137 true (.fa 3 (T 2)), bg 139 137 true (.ld false 1 (T 138)), bg 140 137 true (.ia 4 (T 139) (I 0)), bg 141 137 true (.ld true 4 (T 140)), bg 142 137 true (.mv (T 1)), bg 143 137 true (.call 21 [(T 141), (T 142)]), b 144 (.pick (T 137) (T 143) (B false)), b 145 (.mv (T 144)), bg 146 145 true (.fa 3 (T 2)), bg 147 145 true (.ld false 1 (T 146)), bg 148 145 true (.rs 4 (T 147) (some (I 1)) none), bg 149 145 true (.mv (T 1)), bg 150 145 true (.call 35 [(T 148), (T 149)]), b 151 (.pick (T 145) (T 150) (B false)), b 4 (.mv (T 151))]) .ret) .skip)))))))))))))))))) (.seq (.reg [b 4 (.mv (B false))]) .ret))))
theorem k21 : ∃ code, Tryz.prog.funcs[21]? = some Tryz.f21 ∧ Tryz.f21.body = some code ∧ comp Tryz.prog Tryz.f21.ntmps code = some c21 ∧ rvs Tryz.prog Tryz.f21.results.toList = some [(.t 4)] := ⟨_, Tryz.func21, rfl, by kernel_rfl, by kernel_rfl⟩
def c30 : ACode := (.seq (.reg [b 6 (.mv (B false))]) (.seq (.reg [b 7 (.mv (T 0)), b 8 (.mv (T 1)), b 9 (.sc (.bin .geq 3) [(T 7), (T 8)]), b 10 (.mv (T 9)), bg 11 10 true (.mv (T 0)), bg 12 10 true (.mv (T 2)), bg 13 10 true (.sc (.bin .leq 3) [(T 11), (T 12)]), b 14 (.pick (T 10) (T 13) (B false)), b 6 (.mv (T 14))]) .ret))
theorem k30 : ∃ code, Tryz.prog.funcs[30]? = some Tryz.f30 ∧ Tryz.f30.body = some code ∧ comp Tryz.prog Tryz.f30.ntmps code = some c30 ∧ rvs Tryz.prog Tryz.f30.results.toList = some [(.t 6)] := ⟨_, Tryz.func30, rfl, by kernel_rfl, by kernel_rfl⟩
def c31 : ACode := (.seq (.reg [b 1 (.box (T 0)), b 2 (.mv (B false))]) (.seq (.reg [b 3 (.fa 2 (T 1)), b 4 (.ld false 1 (T 3)), b 5 (.sc (.bin .eql 9) [(T 4), (S [])]), b 6 (.mv (T 5)), bg 7 6 true (.fa 1 (T 1)), bg 8 6 true (.ld false 1 (T 7)), bg 9 6 true (.sc (.bin .eql 3) [(T 8), (I 0)]), b 10 (.pick (T 6) (T 9) (B false)), b 2 (.mv (T 10))]) .ret))
theorem k31 : ∃ code, Tryz.prog.funcs[31]? = some Tryz.f31 ∧ Tryz.f31.body = some code ∧ comp Tryz.prog Tryz.f31.ntmps code = some c31 ∧ rvs Tryz.prog Tryz.f31.results.toList = some [(.t 2)] := ⟨_, Tryz.func31, rfl, by kernel_rfl, by kernel_rfl⟩
def c32 : ACode := (.seq (.reg [b 3 (.box (T 1)), b 4 (.mv (B false))]) (.seq (.reg [b 5 (.mv (T 0)), b 6 (.clo 52 [] [(T 3)]), b 7 (.callh (.func 51) [(T 5), (T 6)]), b 8 (.sc (.un .not) [(T 7)]), b 4 (.mv (T 8))]) .ret))
theorem k32 : ∃ code, Tryz.prog.funcs[32]? = some Tryz.f32 ∧ Tryz.f32.body = some code ∧ comp Tryz.prog Tryz.f32.ntmps code = some c32 ∧ rvs Tryz.prog Tryz.f32.results.toList = some [(.t 4)] := ⟨_, Tryz.func32, rfl, by kernel_rfl, by kernel_rfl⟩
def c35 : ACode := (.seq (.reg [b 4 (.mv (B false))]) (.seq (.seq (.reg [b 8 (.mv (T 0)), b 9 (.ln (T 8)), b 10 (.mv (I 0))]) (.block 0 (.loop (.seq (.reg [b 11 (.sc (.bin .lss 3) [(T 10), (T 9)])]) (.seq (.cond (T 11) .skip (.exit 0)) (.seq (.block 1 (.seq (.reg [b 12 (.mv (T 10)), b 13 (.ia 4 (T 8) (T 10)), b 14 (.ld true 4 (T 13)), b 6 (.alloc [(.int .i64 0), (.int .i64 0), (.string ⟨#[]⟩), (.slice none 0 0)]), b 5 (.mv (T 12)), b0 (.st 4 (T 6) (T 14))]) (.seq (.reg [b 15 (.clo 55 [] [(T 6)]), b 7 (.mv (T 15))]) (.seq (.reg [b 16 (.fa 0 (T 6)), b 17 (.ld false 1 (T 16)), b 18 (.sc (.bin .neq 3) [(T 17), (I 6)]), b 19 (.mv (T 18)), bg 20 19 false (.fa 2 (T 6)), bg 21 19 false (.ld false 1 (T 20)), bg 22 19 false (.call 34 [(T 21)]), bg 23 19 false (.sc (.un .not) [(T 22)]), b 24 (.pick (T 19) (B true) (T 23)), b 25 (.mv (T 24)), bg 26 25 false (.fa 1 (T 6)), bg 27 25 false (.ld false 1 (T 26)), bg 28 25 false (.call 30 [(T 27), (I 0), (I 8)]), bg 29 25 false (.sc (.un .not) [(T 28)]), b 30 (.pick (T 25) (B true) (T 29)), b 31 (.mv (T 30)), bg 32 31 false (.fa 3 (T 6)), bg 33 31 false (.ld false 1 (T 32)), bg 34 31 false (.ln (T 33)), bg 35 31 false (.sc (.bin .neq 3) [(T 34), (I 1)]), b 36 (.pick (T 31) (B true) (T 35)), b 37 (.mv (T 36)), ag 38 37 false (.fa 3 (T 6)), ag 39 37 false (.ld false 1 (T 38)), ag 40 37 false (.ia 4 (T 39) (I 0)), ag 41 37 false (.ld true 4 (T 40)), ag 42 37 false (.mv (T 1)), bg 43 37 false (.fa 1 (T 6)), bg 44 37 false (.ld false 1 (T 43)), bg 45 37 false (.sc (.bin .add 3) [(T 42), (T 44)]), bg 46 37 false (.call 21 [(T 41), (T 45)]), bg 47 37 false (.sc (.un .not) [(T 46)]), b 48 (.pick (T 37) (B true) (T 47)), b 49 (.mv (T 48)), ag 50 49 false (.mv (T 0)), ag 51 49 false (.mv (T 5)), ag 52 49 false (.rs 4 (T 50) none (some (T 51))), bg 53 49 false (.mv (T 7)), bg 54 49 false (.callh (.func 51) [(T 52), (T 53)]), b 55 (.pick (T 49) (B true) (T 54))]) (.cond (T 55) (.seq (.reg [b 4 (.mv (B false))]) .ret) .skip))))) (.reg [b 56 (.sc (.bin .add 3) [(T 10), (I 1)]), b 10 (.mv (T 56))]))))))) (.seq (.reg [b 57 (.mv (T 0)), b 58 (.ln (T 57)), b 59 (.call 30 [(T 58), (I 1), (I 8)]), b 4 (.mv (T 59))]) .ret)))
theorem k35 : ∃ code, Tryz.prog.funcs[35]? = some Tryz.f35 ∧ Tryz.f35.body = some code ∧ comp Tryz.prog Tryz.f35.ntmps code = some c35 ∧ rvs Tryz.prog Tryz.f35.results.toList = some [(.t 4)] := ⟨_, Tryz.func35, rfl, by kernel_rfl, by kernel_rfl⟩
def c51 : ACode := (.seq (.reg [b 4 (.mv (B false))]) (.seq (.reg [b 5 (.mv (T 0)), b 6 (.mv (T 1)), b 7 (.callh (.func 59) [(T 5), (T 6)]), b 8 (.sc (.bin .geq 3) [(T 7), (I 0)]), b 4 (.mv (T 8))]) .ret))
theorem k51 : ∃ code, Tryz.prog.funcs[51]? = some Tryz.f51 ∧ Tryz.f51.body = some code ∧ comp Tryz.prog Tryz.f51.ntmps code = some c51 ∧ rvs Tryz.prog Tryz.f51.results.toList = some [(.t 4)] := ⟨_, Tryz.func51, rfl, by kernel_rfl, by kernel_rfl⟩
def c52 : ACode := (.seq (.reg [b 2 (.box (T 0)), b 3 (.mv (B false))]) (.seq (.reg [b 4 (.ld true 4 (T 2)), b 5 (.ld false 1 (T 1)), b 6 (.call 21 [(T 4), (T 5)]), b 7 (.sc (.un .not) [(T 6)]), b 3 (.mv (T 7))]) .ret))
theorem k52 : ∃ code, Tryz.prog.funcs[52]? = some Tryz.f52 ∧ Tryz.f52.body = some code ∧ comp Tryz.prog Tryz.f52.ntmps code = some c52 ∧ rvs Tryz.prog Tryz.f52.results.toList = some [(.t 3)] := ⟨_, Tryz.func52, rfl, by kernel_rfl, by kernel_rfl⟩
def c55 : ACode := (.seq (.reg [b 2 (.box (T 0)), b 3 (.mv (B false))]) (.seq (.reg [b 4 (.fa 2 (T 2)), b 5 (.ld false 1 (T 4)), b 6 (.fa 2 (T 1)), b 7 (.ld false 1 (T 6)), b 8 (.sc (.bin .eql 9) [(T 5), (T 7)]), b 3 (.mv (T 8))]) .ret))
theorem k55 : ∃ code, Tryz.prog.funcs[55]? = some Tryz.f55 ∧ Tryz.f55.body = some code ∧ comp Tryz.prog Tryz.f55.ntmps code = some c55 ∧ rvs Tryz.prog Tryz.f55.results.toList = some [(.t 3)] := ⟨_, Tryz.func55, rfl, by kernel_rfl, by kernel_rfl⟩
def c59 : ACode := (.seq (.reg [b 4 (.mv (I 0))]) (.seq (.seq (.reg [b 6 (.mv (T 0)), b 7 (.ln (T 6)), b 8 (.mv (I 0))]) (.block 0 (.loop (.seq (.reg [b 9 (.sc (.bin .lss 3) [(T 8), (T 7)])]) (.seq (.cond (T 9) .skip (.exit 0)) (.seq (.block 1 (.seq (.reg [b 10 (.mv (T 8)), b 5 (.mv (T 10))]) (.seq (.reg [b 11 (.mv (T 1)), b 12 (.mv (T 0)), b 13 (.mv (T 5)), b 14 (.ia 4 (T 12) (T 13)), b 15 (.ld true 4 (T 14)), b 16 (.callh (T 11) [(T 15)])]) (.cond (T 16) (.seq (.reg [b 17 (.mv (T 5)), b 4 (.mv (T 17))]) .ret) .skip)))) (.reg [b 18 (.sc (.bin .add 3) [(T 8), (I 1)]), b 8 (.mv (T 18))]))))))) (.seq (.reg [b 4 (.mv (I (-1)))]) .ret)))
theorem k59 : ∃ code, Tryz.prog.funcs[59]? = some Tryz.f59 ∧ Tryz.f59.body = some code ∧ comp Tryz.prog Tryz.f59.ntmps code = some c59 ∧ rvs Tryz.prog Tryz.f59.results.toList = some [(.t 4)] := ⟨_, Tryz.func59, rfl, by kernel_rfl, by kernel_rfl⟩
end Go.Proofs.YtnjmilelifmfpaaGreatDoor.Ev

namespace Go.Proofs.YtnjmilelifmfpaaGreatDoor.Q
open Go.RowKit Go.Proofs.YtnjmilelifmfpaaGreatDoorW.PrintWords Go.Proofs.YtnjmilelifmfpaaGreatDoorW.PrintLast Go.Proofs.YtnjmilelifmfpaaGreatDoorW.PrintMore
attribute [local go_sem] max2_int min2_int max_two min_two max_three min_three max_four min_four
set_option linter.unusedVariables false
set_option linter.unusedSimpArgs false



def errW : Option Int → Value
 | none => .nilIface
 | some c => .iface 0 (.int .i64 c)
theorem errW_none : errW none = .nilIface := rfl
theorem errW_some (c : Int) : errW (some c) = .iface 0 (.int .i64 c) := rfl

theorem info24 : (Tryz.prog.info? 24).map (fun i => (i.zero, i.size, i.bytes)) = some (some (.agg #[(.int .i64 0), (.int .i64 0), (.string ⟨#[]⟩), (.slice none 0 0)]), 4, 56) := by kernel_rfl
structure S24 where
 f0 : Int
 f1 : Int
 f2 : ByteArray
 f3 : (List S24)
def z24 : S24 := ⟨(0 : Int), (0 : Int), (⟨#[]⟩ : ByteArray), ([] : List S24)⟩
def F24 (d : Kd S24) : Kd S24 := Kd.iso (Kd.pair (Kd.int .i64) (Kd.pair (Kd.int .i64) (Kd.pair Kd.string (Kd.slice 24 d)))) (fun x : S24 => (x.f0, x.f1, x.f2, x.f3))
theorem mono24 : Kd.Mono F24 := Kd.mono_iso _ (Kd.mono_pair (Kd.mono_const _) (Kd.mono_pair (Kd.mono_const _) (Kd.mono_pair (Kd.mono_const _) (Kd.mono_slice 24 Kd.mono_id))))
theorem sub24 : Kd.Sub F24 [24] := Kd.sub_iso _ (Kd.sub_pair (Kd.sub_const _ (by decide)) (Kd.sub_pair (Kd.sub_const _ (by decide)) (Kd.sub_pair (Kd.sub_const _ (by decide)) (Kd.sub_slice 24 (by decide) Kd.sub_id))))
theorem sz24 : ∀ n, (Kd.upto F24 4 [24] n).sz = 4 := Kd.upto_sz (fun _ => rfl)
def k24 : Kd S24 := Kd.fix F24 4 [24] sz24 (Kd.upto_E sub24)
theorem k24_open {w : World} {x : S24} {cs : List Value} (h : k24.K w x cs) : ∃ A3 c3, cs = [.int .i64 x.f0, .int .i64 x.f1, .string x.f2, .slice A3 x.f3.length c3] ∧ x.f3.length ≤ c3 ∧ k24.C w A3 x.f3.length x.f3 := by
 obtain ⟨n, h⟩ := h
 cases n with
 | zero => exact h.elim
 | succ n =>
  obtain ⟨_, _, rfl, rfl, ⟨_, _, rfl, rfl, ⟨_, _, rfl, rfl, ⟨A3, c3, rfl, l3, g3⟩⟩⟩⟩ := h
  exact ⟨A3, c3, rfl, l3, Kd.fix_C g3⟩
theorem k24_mk (w : World) (x : S24) {A3 : Option Addr} {c3 : Nat} (l3 : x.f3.length ≤ c3) (g3 : k24.C w A3 x.f3.length x.f3) : k24.K w x [.int .i64 x.f0, .int .i64 x.f1, .string x.f2, .slice A3 x.f3.length c3] := by
 obtain ⟨n3, q3⟩ := Kd.fix_C_back mono24 g3
 have r3 := Kd.upto_C_le mono24 sz24 (show n3 ≤ n3 by omega) q3
 exact ⟨n3 + 1, ⟨[.int .i64 x.f0], [.int .i64 x.f1, .string x.f2, .slice A3 x.f3.length c3], rfl, rfl, ⟨[.int .i64 x.f1], [.string x.f2, .slice A3 x.f3.length c3], rfl, rfl, ⟨[.string x.f2], [.slice A3 x.f3.length c3], rfl, rfl, ⟨A3, c3, rfl, l3, r3⟩⟩⟩⟩⟩
theorem k24_openF {W : World} {ok : Nat → Prop} {x : S24} {cs : List Value} (h : Kd.FK k24 W ok x cs) : ∃ A3 c3, cs = [.int .i64 x.f0, .int .i64 x.f1, .string x.f2, .slice A3 x.f3.length c3] ∧ x.f3.length ≤ c3 ∧ Kd.F k24 W ok A3 x.f3.length x.f3 := by
 obtain ⟨A3, c3, rfl, l3, _⟩ := k24_open (Kd.FK_now h)
 exact ⟨A3, c3, rfl, l3, (fun W' hW => by obtain ⟨A3_, c3_, he, l3_, g3_⟩ := k24_open (h W' hW); injection (Option.some.inj (show some (Value.slice A3 x.f3.length c3) = some (Value.slice A3_ x.f3.length c3_) from congrArg (fun l => l[3]?) he)) with ha_ _ _; rw [ha_]; exact g3_)⟩
theorem k24_mkF (W : World) (ok : Nat → Prop) (x : S24) {A3 : Option Addr} {c3 : Nat} (l3 : x.f3.length ≤ c3) (g3 : Kd.F k24 W ok A3 x.f3.length x.f3) : Kd.FK k24 W ok x [.int .i64 x.f0, .int .i64 x.f1, .string x.f2, .slice A3 x.f3.length c3] := fun W2 hW => k24_mk W2 x l3 (g3 W2 hW)
def rd_T24 (xs : List S24) (i : Int) : S24 := xs.getD i.toNat z24
theorem at_T24 {w : World} {A : Option Addr} {n : Nat} {xs : List S24} (h : Kd.C k24 w A n xs) (i : Int) (h0 : 0 ≤ i) (h1 : i < n) : ∃ ad A3 c3, A = some ad ∧ w.cell? (ad.add (i.toNat * 4)) = some (.int .i64 (rd_T24 xs i).f0) ∧ w.cell? ⟨(ad.add (i.toNat * 4)).block, (ad.add (i.toNat * 4)).off + 1, none⟩ = some (.int .i64 (rd_T24 xs i).f1) ∧ w.cell? ⟨(ad.add (i.toNat * 4)).block, (ad.add (i.toNat * 4)).off + 2, none⟩ = some (.string (rd_T24 xs i).f2) ∧ w.cell? ⟨(ad.add (i.toNat * 4)).block, (ad.add (i.toNat * 4)).off + 3, none⟩ = some (.slice A3 (rd_T24 xs i).f3.length c3) ∧ (rd_T24 xs i).f3.length ≤ c3 ∧ k24.C w A3 (rd_T24 xs i).f3.length (rd_T24 xs i).f3 := by
 obtain ⟨ad, c, e, _, hK, hc0⟩ := Kd.C_get h z24 i h0 h1
 have hc : ∀ j u, c[j]? = some u → w.cell? (ad.add (i.toNat * 4 + j)) = some u := hc0
 obtain ⟨A3, c3, rfl, l3, g3⟩ := k24_open hK
 exact ⟨ad, A3, c3, e, hc 0 _ rfl, by rw [← add_field _ _ 1 (by omega)]; exact hc 1 _ rfl, by rw [← add_field _ _ 2 (by omega)]; exact hc 2 _ rfl, by rw [← add_field _ _ 3 (by omega)]; exact hc 3 _ rfl, l3, g3⟩

structure S63 where
 f0 : Int
 f1 : ByteArray
 f2 : Int
 f3 : Int
def z63 : S63 := ⟨(0 : Int), (⟨#[]⟩ : ByteArray), (0 : Int), (0 : Int)⟩
def k63 : Kd S63 := Kd.iso (Kd.pair (Kd.int .i64) (Kd.pair Kd.string (Kd.pair (Kd.int .i64) (Kd.int .i64)))) (fun x : S63 => (x.f0, x.f1, x.f2, x.f3))
theorem k63_open {w : World} {x : S63} {cs : List Value} (h : k63.K w x cs) : cs = [.int .i64 x.f0, .string x.f1, .int .i64 x.f2, .int .i64 x.f3] := by
 obtain ⟨_, _, rfl, rfl, ⟨_, _, rfl, rfl, ⟨_, _, rfl, rfl, rfl⟩⟩⟩ := h
 exact rfl
theorem k63_mkM (w : World) (base : Nat) (ok : Nat → Prop) (x : S63)  : k63.M w base ok x [.int .i64 x.f0, .string x.f1, .int .i64 x.f2, .int .i64 x.f3] := ⟨[.int .i64 x.f0], [.string x.f1, .int .i64 x.f2, .int .i64 x.f3], rfl, rfl, ⟨[.string x.f1], [.int .i64 x.f2, .int .i64 x.f3], rfl, rfl, ⟨[.int .i64 x.f2], [.int .i64 x.f3], rfl, rfl, rfl⟩⟩⟩
def rd_T63 (xs : List S63) (i : Int) : S63 := xs.getD i.toNat z63
theorem at_T63 {w : World} {A : Option Addr} {n : Nat} {xs : List S63} (h : Kd.C k63 w A n xs) (i : Int) (h0 : 0 ≤ i) (h1 : i < n) : ∃ ad , A = some ad ∧ w.cell? (ad.add (i.toNat * 4)) = some (.int .i64 (rd_T63 xs i).f0) ∧ w.cell? ⟨(ad.add (i.toNat * 4)).block, (ad.add (i.toNat * 4)).off + 1, none⟩ = some (.string (rd_T63 xs i).f1) ∧ w.cell? ⟨(ad.add (i.toNat * 4)).block, (ad.add (i.toNat * 4)).off + 2, none⟩ = some (.int .i64 (rd_T63 xs i).f2) ∧ w.cell? ⟨(ad.add (i.toNat * 4)).block, (ad.add (i.toNat * 4)).off + 3, none⟩ = some (.int .i64 (rd_T63 xs i).f3) := by
 obtain ⟨ad, c, e, _, hK, hc0⟩ := Kd.C_get h z63 i h0 h1
 have hc : ∀ j u, c[j]? = some u → w.cell? (ad.add (i.toNat * 4 + j)) = some u := hc0
 obtain rfl := k63_open hK
 exact ⟨ad, e, hc 0 _ rfl, by rw [← add_field _ _ 1 (by omega)]; exact hc 1 _ rfl, by rw [← add_field _ _ 2 (by omega)]; exact hc 2 _ rfl, by rw [← add_field _ _ 3 (by omega)]; exact hc 3 _ rfl⟩

structure S43 where
 f0 : Int
 f1 : ByteArray
 f2 : Int
 f3 : Int
 f4 : (List S43)
def F43 (d : Kd S43) : Kd S43 := Kd.iso (Kd.pair (Kd.int .i64) (Kd.pair Kd.string (Kd.pair (Kd.int .i64) (Kd.pair (Kd.int .i64) (Kd.slice 43 d))))) (fun x : S43 => (x.f0, x.f1, x.f2, x.f3, x.f4))
theorem sub43 : Kd.Sub F43 [43] := Kd.sub_iso _ (Kd.sub_pair (Kd.sub_const _ (by decide)) (Kd.sub_pair (Kd.sub_const _ (by decide)) (Kd.sub_pair (Kd.sub_const _ (by decide)) (Kd.sub_pair (Kd.sub_const _ (by decide)) (Kd.sub_slice 43 (by decide) Kd.sub_id)))))
theorem sz43 : ∀ n, (Kd.upto F43 5 [43] n).sz = 5 := Kd.upto_sz (fun _ => rfl)
def k43 : Kd S43 := Kd.fix F43 5 [43] sz43 (Kd.upto_E sub43)
structure S113 where
 f0 : ByteArray
 f1 : Int
def k113 : Kd S113 := Kd.iso (Kd.pair Kd.string (Kd.int .i64)) (fun x : S113 => (x.f0, x.f1))
end Go.Proofs.YtnjmilelifmfpaaGreatDoor.Q

/- Plain Lean: the tokens of a text, as a function on its bytes. No program in sight. -/
namespace Go.Proofs.YtnjmilelifmfpaaGreatDoor.HLex

def lower (c : UInt8) : Bool := decide (97 ≤ c.toNat) && decide (c.toNat ≤ 122)
def upper (c : UInt8) : Bool := decide (65 ≤ c.toNat) && decide (c.toNat ≤ 90)
def digit (c : UInt8) : Bool := decide (48 ≤ c.toNat) && decide (c.toNat ≤ 57)
def wordly (c : UInt8) : Bool := lower c || upper c || digit c
def blank (c : UInt8) : Bool := c == 32 || c == 10 || c == 9

def words : List (List UInt8) := [[108, 101, 116], [108, 101, 116, 114, 101, 99], [105, 110], [99, 97, 115, 101], [111, 102]]
def isWord (l : List UInt8) : Bool := words.contains l

def signs : List (List UInt8) := [[45, 62], [61, 61], [92], [46], [40], [41], [61], [123], [125], [124], [43], [45], [42], [47], [60]]

def num (l : List UInt8) : Nat := l.foldl (fun n c => 10 * n + (c.toNat - 48)) 0

structure Tok where
 kind : Nat
 text : List UInt8
 n : Nat
 pos : Nat
deriving DecidableEq, Repr

def named (w : List UInt8) : Except Nat (Nat × Nat) :=
 if (w.head?.map digit).getD false then
  if w.any (fun c => decide (57 < c.toNat)) then .error 10
  else if 18 < w.length ∨ 1 < w.length ∧ w.head? = some 48 then .error 11
  else .ok (3, num w)
 else if 16 < w.length then .error 11
 else if isWord w then .ok (4, 0)
 else if (w.head?.map upper).getD false then .ok (2, 0)
 else .ok (1, 0)

def first (l : List UInt8) : Except Nat (Nat × List UInt8 × Nat) :=
 let w := l.takeWhile wordly
 if w = [] then
  match signs.find? (fun s => s.isPrefixOf l) with
  | some s => .ok (5, s, 0)
  | none => .error 10
 else match named w with
  | .ok (k, n) => .ok (k, w, n)
  | .error e => .error e

def lexFrom : Nat → Nat → List UInt8 → Except (Nat × Nat) (List Tok)
 | 0, _, _ => .ok []
 | f + 1, pos, l =>
  let r := l.dropWhile blank
  let p := pos + (l.length - r.length)
  if r = [] then .ok []
  else match first r with
   | .error e => .error (p, e)
   | .ok (k, t, n) => match lexFrom f (p + t.length) (r.drop t.length) with
    | .ok ts => .ok (⟨k, t, n, p⟩ :: ts)
    | .error e => .error e

def lex (l : List UInt8) : Except (Nat × Nat) (List Tok) := lexFrom (l.length + 1) 0 l

end Go.Proofs.YtnjmilelifmfpaaGreatDoor.HLex

/- Plain Lean: terms, and what layer 6 tells of them. No program in sight, but for the printed type of terms. -/
namespace Go.Proofs.YtnjmilelifmfpaaGreatDoor.HCore
open Go.Proofs.YtnjmilelifmfpaaGreatDoor.Q
abbrev T := S24
mutual
def height : T → Nat
 | ⟨_, _, _, l⟩ => heights l + 1
def heights : List T → Nat
 | [] => 0
 | x :: r => max (height x) (heights r)
end
mutual
def size : T → Nat
 | ⟨_, _, _, l⟩ => sizes l + 1
def sizes : List T → Nat
 | [] => 0
 | x :: r => size x + sizes r
end
mutual
def wt : T → Nat
 | ⟨_, _, s, l⟩ => s.size + 1 + wts l
def wts : List T → Nat
 | [] => 0
 | x :: r => wt x + wts r
end
mutual
def Ok : T → Prop
 | ⟨k, n, _, l⟩ => (Go.Lit.int .i64 k).wf = true ∧ (Go.Lit.int .i64 n).wf = true ∧ Oks l
def Oks : List T → Prop
 | [] => True
 | x :: r => Ok x ∧ Oks r
end
def con (s : ByteArray) : Bool := match HLex.lex s.data.toList with
 | .ok [t] => decide (t.kind = 2) && decide (t.text = s.data.toList)
 | _ => false
def oper (s : ByteArray) : Bool := [[43], [45], [42], [47], [60], [61, 61]].contains s.data.toList
def bare (n : Int) (s : ByteArray) : Bool := decide (s.data.toList = []) && decide (n = 0)
mutual
def may : T → Int → Bool
 | ⟨k, n, s, l⟩, free =>
  if k = 1 then decide (l.length = 0) && decide (s.data.toList = []) && decide (0 ≤ n) && decide (n ≤ free - 1)
  else if k = 7 then decide (l.length = 0) && decide (s.data.toList = []) && decide (0 ≤ free)
  else if k = 9 then decide (l.length = 0) && bare n s && decide (0 ≤ free)
  else if k = 2 then decide (l.length = 1) && bare n s && decide (0 ≤ free) && each l (free + 1)
  else if k = 3 then decide (l.length = 2) && bare n s && each l free
  else if k = 8 then decide (l.length = 2) && decide (n = 0) && oper s && each l free
  else if k = 4 then decide (l.length ≤ 8) && decide (n = 0) && con s && decide (0 ≤ free) && each l free
  else if k = 5 then decide (2 ≤ l.length) && bare n s && mayCase l free
  else false
def each : List T → Int → Bool
 | [], _ => true
 | x :: r, free => may x free && each r free
def mayCase : List T → Int → Bool
 | [], _ => false
 | x :: r, free => may x free && alts r free [] && decide (1 ≤ r.length) && decide (r.length ≤ 8)
def alts : List T → Int → List T → Bool
 | [], _, _ => true
 | ⟨k, n, s, l⟩ :: r, free, seen => decide (k = 6) && con s && decide (0 ≤ n) && decide (n ≤ 8) && decide (l.length = 1) && each l (free + n) && !(seen.any fun b => decide (b.f2.data.toList = s.data.toList)) && alts r free (seen ++ [⟨k, n, s, l⟩])
end
mutual
def same : T → T → Bool
 | ⟨k, n, s, l⟩, ⟨k', n', s', l'⟩ => decide (k = k') && decide (s.data.toList = s'.data.toList) && decide (n = n') && sames l l'
def sames : List T → List T → Bool
 | [], [] => true
 | x :: r, y :: r' => same x y && sames r r'
 | _, _ => false
end
theorem height_get {l : List T} {x : T} (h : x ∈ l) : height x ≤ heights l := by
 induction l with
 | nil => cases h
 | cons y r ih =>
  simp only [heights]
  rcases List.mem_cons.1 h with rfl | h
  ·omega
  ·have := ih h; omega
theorem wt_get {l : List T} {x : T} (h : x ∈ l) : wt x ≤ wts l := by
 induction l with
 | nil => cases h
 | cons y r ih =>
  simp only [wts]
  rcases List.mem_cons.1 h with rfl | h
  ·omega
  ·have := ih h; omega
theorem each_iff (free : Int) : ∀ l : List T, each l free = l.all (fun x => may x free)
 | [] => rfl
 | x :: r => by simp only [each, List.all_cons, each_iff free r]
end Go.Proofs.YtnjmilelifmfpaaGreatDoor.HCore

namespace Go.Proofs.YtnjmilelifmfpaaGreatDoor.Ev
open Go Go.RowKit
open HCore (wt wts may same height heights size sizes)
set_option linter.unusedSimpArgs false
set_option linter.unusedVariables false
abbrev Tm := HCore.T
mutual
def encT : Tm → List AV
 | ⟨k, n, s, l⟩ => [.s (.int .i64 k), .s (.int .i64 n), .s (.string s), .row (encTs l)]
def encTs : List Tm → List (List AV)
 | [] => []
 | x :: l => encT x :: encTs l
end
theorem encT_is (x : Tm) : encT x = [.s (.int .i64 x.f0), .s (.int .i64 x.f1), .s (.string x.f2), .row (encTs x.f3)] := by cases x; rfl
theorem encTs_map : ∀ l : List Tm, encTs l = l.map encT
 | [] => rfl
 | x :: l => by rw [encTs, encTs_map l]; rfl
theorem encTs_len (l : List Tm) : (encTs l).length = l.length := by rw [encTs_map]; simp
theorem encT_len (x : Tm) : (encT x).length = 4 := by rw [encT_is]; rfl
theorem encTs_get (l : List Tm) (i : Nat) : (encTs l)[i]? = l[i]?.map encT := by rw [encTs_map, List.getElem?_map]
theorem eget {l : List Tm} {i : Nat} {y : Tm} (h : l[i]? = some y) : (encTs l)[i]? = some [.s (.int .i64 y.f0), .s (.int .i64 y.f1), .s (.string y.f2), .row (encTs y.f3)] := by rw [encTs_get, h, ← encT_is]; rfl
theorem wt_of (x : Tm) : wt x = x.f2.size + 1 + wts x.f3 := by cases x; rfl
theorem height_of (x : Tm) : height x = heights x.f3 + 1 := by cases x; rfl
theorem size_of (x : Tm) : size x = sizes x.f3 + 1 := by cases x; rfl
theorem wr {i : Int} (h0 : -9223372036854775808 ≤ i) (h1 : i < 9223372036854775808) : IntKind.i64.wrap i = i := by rw [IntKind.wrap_i64]; omega
theorem height_mem {l : List Tm} {x : Tm} (h : x ∈ l) : height x ≤ heights l := by
 induction l with
 | nil => simp at h
 | cons y l ih =>
  simp only [heights]
  rcases List.mem_cons.1 h with rfl | h
  ·omega
  ·have := ih h; omega
theorem heights_take {l : List Tm} {i : Nat} {x : Tm} (h : l[i]? = some x) : heights (l.take (i + 1)) = max (heights (l.take i)) (height x) := by
 induction l generalizing i with
 | nil => simp at h
 | cons y l ih =>
  cases i with
  | zero => simp at h; subst h; simp [heights]
  | succ i => simp only [List.take_succ_cons, heights, ih (by simpa using h)]; omega
theorem sizes_take {l : List Tm} {i : Nat} {x : Tm} (h : l[i]? = some x) : sizes (l.take (i + 1)) = sizes (l.take i) + size x := by
 induction l generalizing i with
 | nil => simp at h
 | cons y l ih =>
  cases i with
  | zero => simp at h; subst h; simp [sizes]
  | succ i => simp only [List.take_succ_cons, sizes, ih (by simpa using h)]; omega
theorem size_le_wt : ∀ x : Tm, size x ≤ wt x
 | ⟨k, n, s, l⟩ => by simp only [size, wt]; have := sizes_le_wts l; omega
where
 sizes_le_wts : ∀ l : List Tm, sizes l ≤ wts l
  | [] => Nat.le_refl 0
  | x :: r => by simp only [sizes, wts]; have := size_le_wt x; have := sizes_le_wts r; omega
theorem height_le_size : ∀ x : Tm, height x ≤ size x
 | ⟨k, n, s, l⟩ => by simp only [size, height]; have := heights_le_sizes l; omega
where
 heights_le_sizes : ∀ l : List Tm, heights l ≤ sizes l
  | [] => Nat.le_refl 0
  | x :: r => by simp only [sizes, heights]; have := height_le_size x; have := heights_le_sizes r; omega
theorem sizes_mem {l : List Tm} {x : Tm} (h : x ∈ l) : size x ≤ sizes l := by
 induction l with
 | nil => simp at h
 | cons y l ih =>
  simp only [sizes]
  rcases List.mem_cons.1 h with rfl | h
  ·omega
  ·have := ih h; omega
theorem len_sizes : ∀ l : List Tm, l.length ≤ sizes l
 | [] => Nat.le_refl 0
 | x :: l => by
  have h1 : 1 ≤ size x := by rw [size_of]; omega
  have := len_sizes l
  simp only [List.length_cons, sizes]; omega
theorem take_len {α : Type} (l : List α) : l.take l.length = l := List.take_length
theorem stake_le {l : List Tm} {i : Nat} : sizes (l.take i) ≤ sizes l := by
 induction l generalizing i with
 | nil => simp
 | cons y l ih => cases i with
  | zero => simp [sizes]
  | succ i => simp only [List.take_succ_cons, sizes]; have := ih (i := i); omega
mutual
def mx : Tm → Nat
 | ⟨_, _, s, l⟩ => max s.size (mxs l)
def mxs : List Tm → Nat
 | [] => 0
 | x :: l => max (mx x) (mxs l)
end
theorem mx_of (x : Tm) : mx x = max x.f2.size (mxs x.f3) := by cases x; rfl
theorem mx_mem {l : List Tm} {x : Tm} (h : x ∈ l) : mx x ≤ mxs l := by
 induction l with
 | nil => simp at h
 | cons y l ih =>
  simp only [mxs]
  rcases List.mem_cons.1 h with rfl | h
  ·omega
  ·have := ih h; omega
theorem mx_le_wt : ∀ x : Tm, mx x ≤ wt x
 | ⟨k, n, s, l⟩ => by simp only [mx, wt]; have := mxs_le_wts l; omega
where
 mxs_le_wts : ∀ l : List Tm, mxs l ≤ wts l
  | [] => Nat.le_refl 0
  | x :: r => by simp only [mxs, wts]; have := mx_le_wt x; have := mxs_le_wts r; omega
end Go.Proofs.YtnjmilelifmfpaaGreatDoor.Ev

namespace Go.Proofs.YtnjmilelifmfpaaGreatDoor.Pure
open Go Go.RowKit Go.Lib Go.Proofs Go.Proofs.YtnjmilelifmfpaaGreatDoor.Q Go.Proofs.YtnjmilelifmfpaaGreatDoorW.PrintWords Go.Proofs.YtnjmilelifmfpaaGreatDoorW.PrintLast Go.Proofs.YtnjmilelifmfpaaGreatDoorW.PrintMore
set_option linter.unusedVariables false
set_option linter.unusedSimpArgs false
namespace WK
abbrev Tr := S43
abbrev Tm := S24
theorem get_lt {α : Type} {l : List α} {i : Nat} {y : α} (h : l[i]? = some y) : i < l.length := (List.getElem?_eq_some_iff.1 h).1
theorem tm_get {w : World} {A : Option Addr} {l : List Tm} {i : Nat} {y : Tm} (h : Kd.C k24 w A l.length l) (hy : l[i]? = some y) : ∃ ad A3 c3, A = some ad ∧ w.cell? (ad.add (i * 4)) = some (.int .i64 y.f0) ∧ w.cell? ⟨(ad.add (i * 4)).block, (ad.add (i * 4)).off + 1, none⟩ = some (.int .i64 y.f1) ∧ w.cell? ⟨(ad.add (i * 4)).block, (ad.add (i * 4)).off + 2, none⟩ = some (.string y.f2) ∧ w.cell? ⟨(ad.add (i * 4)).block, (ad.add (i * 4)).off + 3, none⟩ = some (.slice A3 y.f3.length c3) ∧ y.f3.length ≤ c3 ∧ Kd.C k24 w A3 y.f3.length y.f3 := by
 have hi := get_lt hy
 have hr : rd_T24 l (i : Int) = y := by unfold rd_T24; rw [Int.toNat_natCast, List.getD_eq_getElem?_getD, hy]; rfl
 obtain ⟨ad, A3, c3, hA, x0, x1, x2, x3, hl, hc⟩ := at_T24 h (i : Int) (by omega) (by omega)
 rw [hr] at x0 x1 x2 x3 hl hc
 rw [Int.toNat_natCast] at x0 x1 x2 x3
 exact ⟨ad, A3, c3, hA, x0, x1, x2, x3, hl, hc⟩
theorem add0 (ad : Addr) : ad.add 0 = ad := by cases ad with | mk b o t => cases t <;> simp [Addr.add]
theorem add_more (ad : Addr) (n j : Nat) (hj : 0 < j) : ad.add (n + j) = ⟨(ad.add n).block, (ad.add n).off + j, none⟩ := by
 cases ad with
 | mk b o s =>
  cases n with
  | zero =>
   cases j with
   | zero => omega
   | succ j => simp [Addr.add]
  | succ n => simp [Addr.add]; omega
theorem tm_getF {w : World} {ok : Nat → Prop} {A : Option Addr} {l : List Tm} {i : Nat} {y : Tm} (h : Kd.F k24 w ok A l.length l) (hy : l[i]? = some y) : ∃ ad A4 c4, A = some ad ∧ w.cell? (ad.add (i * 4)) = some (.int .i64 y.f0) ∧ w.cell? ⟨(ad.add (i * 4)).block, (ad.add (i * 4)).off + 1, none⟩ = some (.int .i64 y.f1) ∧ w.cell? ⟨(ad.add (i * 4)).block, (ad.add (i * 4)).off + 2, none⟩ = some (.string y.f2) ∧ w.cell? ⟨(ad.add (i * 4)).block, (ad.add (i * 4)).off + 3, none⟩ = some (.slice A4 y.f3.length c4) ∧ y.f3.length ≤ c4 ∧ Kd.F k24 w ok A4 y.f3.length y.f3 := by
 have hi := get_lt hy
 obtain ⟨ad, c, rfl, hcl, hFK, hcc, _⟩ := Kd.F_get h y (i : Int) (by omega) (by omega)
 rw [Int.toNat_natCast, List.getD_eq_getElem?_getD, hy] at hFK
 obtain ⟨A3, c3, rfl, hl3, hF3⟩ := k24_openF hFK
 rw [Int.toNat_natCast] at hcc
 have h0 := hcc 0 _ rfl; have h1 := hcc 1 _ rfl; have h2 := hcc 2 _ rfl; have h3 := hcc 3 _ rfl
 rw [show k24.sz = 4 from rfl] at h0 h1 h2 h3
 rw [add_more _ _ _ (by omega)] at h1 h2 h3
 exact ⟨ad, A3, c3, rfl, h0, h1, h2, h3, hl3, hF3⟩
theorem blk4 {W : World} {g t : Nat} {v0 v1 v2 v3 : Value} (h : W.heap[g]? = some (.cells #[v0, v1, v2, v3] t (0, 0))) (u0 u1 u2 u3 : Value) : ((((W.setCell ⟨g, 0, none⟩ u0).setCell ⟨g, 1, none⟩ u1).setCell ⟨g, 2, none⟩ u2).setCell ⟨g, 3, none⟩ u3).heap[g]? = some (.cells #[u0, u1, u2, u3] t (0, 0)) := by
 have h0 := blk_set h 0 u0
 rw [show (#[v0, v1, v2, v3] : Array Value).setIfInBounds 0 u0 = #[u0, v1, v2, v3] from rfl] at h0
 have h1 := blk_set h0 1 u1
 rw [show (#[u0, v1, v2, v3] : Array Value).setIfInBounds 1 u1 = #[u0, u1, v2, v3] from rfl] at h1
 have h2 := blk_set h1 2 u2
 rw [show (#[u0, u1, v2, v3] : Array Value).setIfInBounds 2 u2 = #[u0, u1, u2, v3] from rfl] at h2
 have h3 := blk_set h2 3 u3
 rw [show (#[u0, u1, u2, v3] : Array Value).setIfInBounds 3 u3 = #[u0, u1, u2, u3] from rfl] at h3
 exact h3
theorem below4 {w W : World} {g : Nat} (h : Below w.heap.size w W) (hg : w.heap.size ≤ g) (u0 u1 u2 u3 : Value) : Below w.heap.size w ((((W.setCell ⟨g, 0, none⟩ u0).setCell ⟨g, 1, none⟩ u1).setCell ⟨g, 2, none⟩ u2).setCell ⟨g, 3, none⟩ u3) := below_set (below_set (below_set (below_set h hg) hg) hg) hg
theorem F4 {α : Type} {d : Kd α} {W : World} {ok : Nat → Prop} {g m : Nat} {A : Option Addr} {l : List α} (h : Kd.F d W ok A m l) (hk : ∀ k, ok k → k ≠ g) (u0 u1 u2 u3 : Value) : Kd.F d ((((W.setCell ⟨g, 0, none⟩ u0).setCell ⟨g, 1, none⟩ u1).setCell ⟨g, 2, none⟩ u2).setCell ⟨g, 3, none⟩ u3) ok A m l := Kd.F_far (p := ⟨g, 3, none⟩) (Kd.F_far (p := ⟨g, 2, none⟩) (Kd.F_far (p := ⟨g, 1, none⟩) (Kd.F_far (p := ⟨g, 0, none⟩) h hk u0) hk u1) hk u2) hk u3
theorem row1 {W : World} {g : Nat} {x : Tm} {cs : List Value} (hn : W.heap[g]? = some (.cells cs.toArray 24 (0, 0))) (h : k24.K W x cs) : Kd.C k24 W (some ⟨g, 0, none⟩) 1 [x] := by
 refine ⟨rfl, by decide, fun _ => ⟨_, rfl, fun j p hj => ?_⟩⟩
 match j, hj with
 | 0, hj =>
  obtain rfl : x = p := by simpa using hj
  refine ⟨cs, k24.K_len h, h, fun i u hi => ?_⟩
  have := blk_cell hn i
  have e : (⟨g, 0, none⟩ : Addr).add (0 * k24.sz + i) = ⟨g, i, none⟩ := by rw [Nat.zero_mul, Nat.zero_add]; simp only [Addr.add]; split <;> simp_all
  rw [e, this]; simpa using hi
end WK
end Go.Proofs.YtnjmilelifmfpaaGreatDoor.Pure

namespace Go.Proofs.YtnjmilelifmfpaaGreatDoor.Q
open Go.RowKit Go.Proofs.YtnjmilelifmfpaaGreatDoorW.PrintWords Go.Proofs.YtnjmilelifmfpaaGreatDoorW.PrintLast Go.Proofs.YtnjmilelifmfpaaGreatDoorW.PrintMore
attribute [local go_sem] max2_int min2_int max_two min_two max_three min_three max_four min_four
set_option linter.unusedVariables false
set_option linter.unusedSimpArgs false

mutual
def gossamerref01_class.j0 : Nat → Int → Bool → Option (Int)
 | 0, _, _ => none
 | k + 1, x0, x8 => if x8 = true then (some 1) else (if x0 ≥ 65 then (gossamerref01_class.j1 k x0 (decide (x0 ≤ 90))) else (gossamerref01_class.j1 k x0 false))
def gossamerref01_class.j1 : Nat → Int → Bool → Option (Int)
 | 0, _, _ => none
 | k + 1, x0, x14 => if x14 = true then (some 2) else (if x0 ≥ 48 then (gossamerref01_class.j2 k x0 (decide (x0 ≤ 57))) else (gossamerref01_class.j2 k x0 false))
def gossamerref01_class.j2 : Nat → Int → Bool → Option (Int)
 | 0, _, _ => none
 | k + 1, x0, x20 => if x20 = true then (some 3) else (if x0 = 32 then (some 4) else (if x0 = 10 then (some 4) else (if x0 = 9 then (some 4) else (some 0))))
end
def gossamerref01_class.f (k : Nat) (a0 : Int) : Option (Int) := if a0 ≥ 97 then (gossamerref01_class.j0 k a0 (decide (a0 ≤ 122))) else (gossamerref01_class.j0 k a0 false)
theorem gossamerref01_class.mono_l : ∀ k, (∀ y0 y1, LeO (gossamerref01_class.j0 k y0 y1) (gossamerref01_class.j0 (k + 1) y0 y1)) ∧ (∀ y0 y1, LeO (gossamerref01_class.j1 k y0 y1) (gossamerref01_class.j1 (k + 1) y0 y1)) ∧ (∀ y0 y1, LeO (gossamerref01_class.j2 k y0 y1) (gossamerref01_class.j2 (k + 1) y0 y1))
 | 0 => ⟨fun _ _ r h => by simp [gossamerref01_class.j0] at h, fun _ _ r h => by simp [gossamerref01_class.j1] at h, fun _ _ r h => by simp [gossamerref01_class.j2] at h⟩
 | k + 1 => by
  obtain ⟨ih0, ih1, ih2⟩ := gossamerref01_class.mono_l k
  refine ⟨?_, ?_, ?_⟩
  ·intro y0 y1
   unfold gossamerref01_class.j0
   repeat' first
  |(with_reducible exact ih0 _ _)
  |(with_reducible exact ih1 _ _)
  |(with_reducible exact ih2 _ _)
  |(with_reducible exact LeO.refl _)
  |(with_reducible exact LeO.none _)
  |(with_reducible refine LeO.ite ?_ ?_)
  |(with_reducible refine LeO.bind ?_ (fun _ => ?_))
  |exact ih0 _ _
  |exact ih1 _ _
  |exact ih2 _ _
  |exact LeO.none _
  |refine LeO.ite ?_ ?_
  |refine LeO.bind ?_ (fun _ => ?_)
  ·intro y0 y1
   unfold gossamerref01_class.j1
   repeat' first
  |(with_reducible exact ih0 _ _)
  |(with_reducible exact ih1 _ _)
  |(with_reducible exact ih2 _ _)
  |(with_reducible exact LeO.refl _)
  |(with_reducible exact LeO.none _)
  |(with_reducible refine LeO.ite ?_ ?_)
  |(with_reducible refine LeO.bind ?_ (fun _ => ?_))
  |exact ih0 _ _
  |exact ih1 _ _
  |exact ih2 _ _
  |exact LeO.none _
  |refine LeO.ite ?_ ?_
  |refine LeO.bind ?_ (fun _ => ?_)
  ·intro y0 y1
   unfold gossamerref01_class.j2
   repeat' first
  |(with_reducible exact ih0 _ _)
  |(with_reducible exact ih1 _ _)
  |(with_reducible exact ih2 _ _)
  |(with_reducible exact LeO.refl _)
  |(with_reducible exact LeO.none _)
  |(with_reducible refine LeO.ite ?_ ?_)
  |(with_reducible refine LeO.bind ?_ (fun _ => ?_))
  |exact ih0 _ _
  |exact ih1 _ _
  |exact ih2 _ _
  |exact LeO.none _
  |refine LeO.ite ?_ ?_
  |refine LeO.bind ?_ (fun _ => ?_)
theorem gossamerref01_class.mono : ∀ a0 k, LeO (gossamerref01_class.f k a0) (gossamerref01_class.f (k + 1) a0) := by
 intro a0 k
 obtain ⟨ih0, ih1, ih2⟩ := gossamerref01_class.mono_l k
 unfold gossamerref01_class.f
 repeat' first
  |(with_reducible exact ih0 _ _)
  |(with_reducible exact ih1 _ _)
  |(with_reducible exact ih2 _ _)
  |(with_reducible exact LeO.refl _)
  |(with_reducible exact LeO.none _)
  |(with_reducible refine LeO.ite ?_ ?_)
  |(with_reducible refine LeO.bind ?_ (fun _ => ?_))
  |exact ih0 _ _
  |exact ih1 _ _
  |exact ih2 _ _
  |exact LeO.none _
  |refine LeO.ite ?_ ?_
  |refine LeO.bind ?_ (fun _ => ?_)
set_option maxHeartbeats 8000000 in
set_option maxRecDepth 100000 in
theorem gossamerref01_class.calls (k : Nat) (a0 : Int) (r : Int) (w : World) (h : gossamerref01_class.f k a0 = some r) :
  Calls Tryz.prog 67 #[.int .u8 a0] w fun e w' => e = .returned (.int .i64 r) ∧ Drawn0 w w' := by
 have H : (if a0 ≥ 97 then (gossamerref01_class.j0 k a0 (decide (a0 ≤ 122))) else (gossamerref01_class.j0 k a0 false)) = some r := h
 clear h
 have HC2 := Aside0.mk H
 clear H
 go_enter Tryz.func67, Tryz.ntmps67
 go_upto_region 1 with (fail)
 go_cut [8] (fun v8 wc => ∃ (kq : Nat) (x8_1 : Bool), v8 = .bool x8_1 ∧ Aside0 (gossamerref01_class.j0 kq a0 x8_1 = some r) ∧ Aside0 (kq ≤ k) ∧ Drawn0 w wc)
 case first =>
  have H := HC2.out
  clear HC2
  by_cases c3 : a0 ≥ 97
  ·rw [if_pos c3] at H
   have c3b0 : decide (97 ≤ a0) = true := decide_eq_true c3
   clear c3
   (first|rw [c3b0]|(simp only [i64_w, i32_w]; rw [c3b0]) | skip)
   have H' := Aside0.mk H
   clear H
   go_wp2
   go_meet
   case rel => exact ⟨_, (decide (a0 ≤ 122)), (by first|rfl|(simp; done)|(simp [*]; done)), H', ⟨by first | omega|exact Nat.le_refl _⟩, by repeat (first|exact Drawn0.refl _|apply Drawn0.step)⟩
  ·rw [if_neg c3] at H
   have c3b0 : decide (97 ≤ a0) = false := decide_eq_false c3
   clear c3
   (first|rw [c3b0]|(simp only [i64_w, i32_w]; rw [c3b0]) | skip)
   have H' := Aside0.mk H
   clear H
   go_wp2
   go_meet
   case rel => exact ⟨_, (false), (by first|rfl|(simp; done)|(simp [*]; done)), H', ⟨by first | omega|exact Nat.le_refl _⟩, by repeat (first|exact Drawn0.refl _|apply Drawn0.step)⟩
 case rest =>
  clear HC2
  try clear p2
  try clear c3
  try clear c3b0
  obtain ⟨kq, x8_1, rfl, HA, HJ1, ⟨mc1, rfl⟩⟩ := hcut
  cases kq with
  | zero => exact absurd HA.out (by simp [gossamerref01_class.j0])
  | succ kj1 =>
   have H := HA.out
   clear HA
   simp only [gossamerref01_class.j0] at H
   by_cases c4 : x8_1 = true
   ·subst c4
    have H1 : (some 1) = some r := by rw [if_pos rfl] at H; exact H
    clear H
    have H := H1
    clear H1
    obtain rfl := Option.some.inj H
    go_wp2
    go_ret
    exact ⟨by first|rfl|(simp; done)|(simp [*]; done), by repeat (first|exact Drawn0.refl _|apply Drawn0.step)⟩
   ·replace c4 := Bool.eq_false_iff.mpr c4
    subst c4
    have H1 : (if a0 ≥ 65 then (gossamerref01_class.j1 kj1 a0 (decide (a0 ≤ 90))) else (gossamerref01_class.j1 kj1 a0 false)) = some r := by rw [if_neg (show ¬ (false = true) by decide)] at H; exact H
    clear H
    have H := H1
    clear H1
    have HC5 := Aside0.mk H
    clear H
    go_upto_region 3 with (fail)
    go_cut [14] (fun v14 wc => ∃ (kq : Nat) (x14_4 : Bool), v14 = .bool x14_4 ∧ Aside0 (gossamerref01_class.j1 kq a0 x14_4 = some r) ∧ Aside0 (kq ≤ kj1) ∧ Drawn0 w wc)
    case first =>
     have H := HC5.out
     clear HC5
     by_cases c6 : a0 ≥ 65
     ·rw [if_pos c6] at H
      have c6b0 : decide (65 ≤ a0) = true := decide_eq_true c6
      clear c6
      (first|rw [c6b0]|(simp only [i64_w, i32_w]; rw [c6b0]) | skip)
      have H' := Aside0.mk H
      clear H
      go_wp2
      go_meet
      case rel => exact ⟨_, (decide (a0 ≤ 90)), (by first|rfl|(simp; done)|(simp [*]; done)), H', ⟨by have := HJ1.out; first | omega|exact Nat.le_refl _⟩, by repeat (first|exact Drawn0.refl _|apply Drawn0.step)⟩
     ·rw [if_neg c6] at H
      have c6b0 : decide (65 ≤ a0) = false := decide_eq_false c6
      clear c6
      (first|rw [c6b0]|(simp only [i64_w, i32_w]; rw [c6b0]) | skip)
      have H' := Aside0.mk H
      clear H
      go_wp2
      go_meet
      case rel => exact ⟨_, (false), (by first|rfl|(simp; done)|(simp [*]; done)), H', ⟨by have := HJ1.out; first | omega|exact Nat.le_refl _⟩, by repeat (first|exact Drawn0.refl _|apply Drawn0.step)⟩
    case rest =>
     clear HC5
     try clear c1
     try clear p2
     try clear c3
     try clear c3b0
     try clear c4
     try clear c6
     try clear c6b0
     try clear p2
     obtain ⟨kq, x14_4, rfl, HA, HJ4, ⟨mc4, rfl⟩⟩ := hcut
     cases kq with
     | zero => exact absurd HA.out (by simp [gossamerref01_class.j1])
     | succ kj4 =>
      have H := HA.out
      clear HA
      simp only [gossamerref01_class.j1] at H
      by_cases c7 : x14_4 = true
      ·subst c7
       have H1 : (some 2) = some r := by rw [if_pos rfl] at H; exact H
       clear H
       have H := H1
       clear H1
       obtain rfl := Option.some.inj H
       go_wp2
       go_ret
       exact ⟨by first|rfl|(simp; done)|(simp [*]; done), by repeat (first|exact Drawn0.refl _|apply Drawn0.step)⟩
      ·replace c7 := Bool.eq_false_iff.mpr c7
       subst c7
       have H1 : (if a0 ≥ 48 then (gossamerref01_class.j2 kj4 a0 (decide (a0 ≤ 57))) else (gossamerref01_class.j2 kj4 a0 false)) = some r := by rw [if_neg (show ¬ (false = true) by decide)] at H; exact H
       clear H
       have H := H1
       clear H1
       have HC8 := Aside0.mk H
       clear H
       go_upto_region 5 with (fail)
       go_cut [20] (fun v20 wc => ∃ (kq : Nat) (x20_7 : Bool), v20 = .bool x20_7 ∧ Aside0 (gossamerref01_class.j2 kq a0 x20_7 = some r) ∧ Aside0 (kq ≤ kj4) ∧ Drawn0 w wc)
       case first =>
        have H := HC8.out
        clear HC8
        by_cases c9 : a0 ≥ 48
        ·rw [if_pos c9] at H
         have c9b0 : decide (48 ≤ a0) = true := decide_eq_true c9
         clear c9
         (first|rw [c9b0]|(simp only [i64_w, i32_w]; rw [c9b0]) | skip)
         have H' := Aside0.mk H
         clear H
         go_wp2
         go_meet
         case rel => exact ⟨_, (decide (a0 ≤ 57)), (by first|rfl|(simp; done)|(simp [*]; done)), H', ⟨by have := HJ1.out; have := HJ4.out; first | omega|exact Nat.le_refl _⟩, by repeat (first|exact Drawn0.refl _|apply Drawn0.step)⟩
        ·rw [if_neg c9] at H
         have c9b0 : decide (48 ≤ a0) = false := decide_eq_false c9
         clear c9
         (first|rw [c9b0]|(simp only [i64_w, i32_w]; rw [c9b0]) | skip)
         have H' := Aside0.mk H
         clear H
         go_wp2
         go_meet
         case rel => exact ⟨_, (false), (by first|rfl|(simp; done)|(simp [*]; done)), H', ⟨by have := HJ1.out; have := HJ4.out; first | omega|exact Nat.le_refl _⟩, by repeat (first|exact Drawn0.refl _|apply Drawn0.step)⟩
       case rest =>
        clear HC8
        try clear c1
        try clear p2
        try clear c3
        try clear c3b0
        try clear c4
        try clear c6
        try clear c6b0
        try clear c7
        try clear c9
        try clear c9b0
        try clear p2
        obtain ⟨kq, x20_7, rfl, HA, HJ7, ⟨mc7, rfl⟩⟩ := hcut
        cases kq with
        | zero => exact absurd HA.out (by simp [gossamerref01_class.j2])
        | succ kj7 =>
         have H := HA.out
         clear HA
         simp only [gossamerref01_class.j2] at H
         by_cases c10 : x20_7 = true
         ·subst c10
          have H1 : (some 3) = some r := by rw [if_pos rfl] at H; exact H
          clear H
          have H := H1
          clear H1
          obtain rfl := Option.some.inj H
          go_wp2
          go_ret
          exact ⟨by first|rfl|(simp; done)|(simp [*]; done), by repeat (first|exact Drawn0.refl _|apply Drawn0.step)⟩
         ·replace c10 := Bool.eq_false_iff.mpr c10
          subst c10
          have H1 : (if a0 = 32 then (some 4) else (if a0 = 10 then (some 4) else (if a0 = 9 then (some 4) else (some 0)))) = some r := by rw [if_neg (show ¬ (false = true) by decide)] at H; exact H
          clear H
          have H := H1
          clear H1
          by_cases c11 : a0 = 32
          ·rw [if_pos c11] at H
           have c11b0 : (a0 == 32) = true := beq_iff_eq.mpr c11
           have c11b1 : (a0 != 32) = false := bne_eq_false_iff_eq.mpr c11
           clear c11
           obtain rfl := Option.some.inj H
           go_wp2
           go_ret
           exact ⟨by first|rfl|(simp; done)|(simp [*]; done), by repeat (first|exact Drawn0.refl _|apply Drawn0.step)⟩
          ·rw [if_neg c11] at H
           have c11b0 : (a0 == 32) = false := beq_eq_false_iff_ne.mpr c11
           have c11b1 : (a0 != 32) = true := bne_iff_ne.mpr c11
           by_cases c12 : a0 = 10
           ·rw [if_pos c12] at H
            have c12b0 : (a0 == 10) = true := beq_iff_eq.mpr c12
            have c12b1 : (a0 != 10) = false := bne_eq_false_iff_eq.mpr c12
            clear c12
            obtain rfl := Option.some.inj H
            go_wp2
            go_ret
            exact ⟨by first|rfl|(simp; done)|(simp [*]; done), by repeat (first|exact Drawn0.refl _|apply Drawn0.step)⟩
           ·rw [if_neg c12] at H
            have c12b0 : (a0 == 10) = false := beq_eq_false_iff_ne.mpr c12
            have c12b1 : (a0 != 10) = true := bne_iff_ne.mpr c12
            by_cases c13 : a0 = 9
            ·rw [if_pos c13] at H
             have c13b0 : (a0 == 9) = true := beq_iff_eq.mpr c13
             have c13b1 : (a0 != 9) = false := bne_eq_false_iff_eq.mpr c13
             clear c13
             obtain rfl := Option.some.inj H
             go_wp2
             go_ret
             exact ⟨by first|rfl|(simp; done)|(simp [*]; done), by repeat (first|exact Drawn0.refl _|apply Drawn0.step)⟩
            ·rw [if_neg c13] at H
             have c13b0 : (a0 == 9) = false := beq_eq_false_iff_ne.mpr c13
             have c13b1 : (a0 != 9) = true := bne_iff_ne.mpr c13
             obtain rfl := Option.some.inj H
             go_wp2
             go_ret
             exact ⟨by first|rfl|(simp; done)|(simp [*]; done), by repeat (first|exact Drawn0.refl _|apply Drawn0.step)⟩

end Go.Proofs.YtnjmilelifmfpaaGreatDoor.Q

namespace Go.Proofs.YtnjmilelifmfpaaGreatDoor.Q
open Go.RowKit Go.Proofs.YtnjmilelifmfpaaGreatDoorW.PrintWords Go.Proofs.YtnjmilelifmfpaaGreatDoorW.PrintLast Go.Proofs.YtnjmilelifmfpaaGreatDoorW.PrintMore
attribute [local go_sem] max2_int min2_int max_two min_two max_three min_three max_four min_four
set_option linter.unusedVariables false
set_option linter.unusedSimpArgs false

def gossamerref01_run.l0 : Nat → ByteArray → Int → Int → Bool → Option (Int × Bool)
 | 0, _, _, _, _ => none
 | k + 1, x0, x1, x6, x7 => if (wrap64 (x1 + x6)) < (x0.size : Int) then (if 0 ≤ (wrap64 (x1 + x6)) then ((gossamerref01_class.f k (bt x0 (wrap64 (x1 + x6)))).bind fun t173 => (if t173 < 1 then (some (x6, x7)) else (if t173 > 3 then (some (x6, x7)) else (if x7 = true then (gossamerref01_run.l0 k x0 x1 (wrap64 (x6 + 1)) true) else (gossamerref01_run.l0 k x0 x1 (wrap64 (x6 + 1)) (decide (t173 < 3))))))) else (none)) else (some (x6, x7))
def gossamerref01_run.f (k : Nat) (a0 : ByteArray) (a1 : Int) : Option (Int × Bool) := gossamerref01_run.l0 k a0 a1 0 false
theorem gossamerref01_run.mono_l : ∀ k, (∀ y0 y1 y2 y3, LeO (gossamerref01_run.l0 k y0 y1 y2 y3) (gossamerref01_run.l0 (k + 1) y0 y1 y2 y3))
 | 0 => fun _ _ _ _ r h => by simp [gossamerref01_run.l0] at h
 | k + 1 => by
  have ih0 := gossamerref01_run.mono_l k
  ·intro y0 y1 y2 y3
   unfold gossamerref01_run.l0
   repeat' first
  |(with_reducible exact ih0 _ _ _ _)
  |(with_reducible exact gossamerref01_class.mono _ _)
  |(with_reducible exact LeO.refl _)
  |(with_reducible exact LeO.none _)
  |(with_reducible refine LeO.ite ?_ ?_)
  |(with_reducible refine LeO.bind ?_ (fun _ => ?_))
  |exact ih0 _ _ _ _
  |exact gossamerref01_class.mono _ _
  |exact LeO.none _
  |refine LeO.ite ?_ ?_
  |refine LeO.bind ?_ (fun _ => ?_)
theorem gossamerref01_run.mono : ∀ a0 a1 k, LeO (gossamerref01_run.f k a0 a1) (gossamerref01_run.f (k + 1) a0 a1) := by
 intro a0 a1 k
 have ih0 := gossamerref01_run.mono_l k
 unfold gossamerref01_run.f
 repeat' first
  |(with_reducible exact ih0 _ _ _ _)
  |(with_reducible exact gossamerref01_class.mono _ _)
  |(with_reducible exact LeO.refl _)
  |(with_reducible exact LeO.none _)
  |(with_reducible refine LeO.ite ?_ ?_)
  |(with_reducible refine LeO.bind ?_ (fun _ => ?_))
  |exact ih0 _ _ _ _
  |exact gossamerref01_class.mono _ _
  |exact LeO.none _
  |refine LeO.ite ?_ ?_
  |refine LeO.bind ?_ (fun _ => ?_)
set_option maxHeartbeats 8000000 in
set_option maxRecDepth 100000 in
theorem gossamerref01_run.calls (k : Nat) (a0 : ByteArray) (a1 : Int) (r1 : Int) (r2 : Bool) (w : World) (h : gossamerref01_run.f k a0 a1 = some (r1, r2)) :
  Calls Tryz.prog 96 #[.string a0, .int .i64 a1] w fun e w' => e = .returned (.tuple #[.int .i64 r1, .bool r2]) ∧ Drawn0 w w' := by
 have H : (gossamerref01_run.l0 k a0 a1 0 false) = some (r1, r2) := h
 clear h
 have H' := Aside0.mk H
 clear H
 go_enter Tryz.func96, Tryz.ntmps96
 go_wp2
 go_loopg [6, 7] k (fun kq v6 v7 w' => ∃ (x6_1 : Int) (x7_1 : Bool), v6 = .int .i64 x6_1 ∧ v7 = .bool x7_1 ∧ Aside0 (gossamerref01_run.l0 kq a0 a1 x6_1 x7_1 = some (r1, r2)) ∧ Aside0 (kq ≤ k) ∧ Drawn0 w w')
 case atStart => exact ⟨(0), (false), (by first|rfl|(simp; done)|(simp [*]; done)), (by first|rfl|(simp; done)|(simp [*]; done)), H', ⟨Nat.le_refl _⟩, by repeat (first|exact Drawn0.refl _|apply Drawn0.step)⟩
 case round =>
  clear H'
  try clear p2
  obtain ⟨x6_1, x7_1, rfl, rfl, HA, HK1, ⟨m1, rfl⟩⟩ := hrel
  cases gk with
  | zero => exact absurd HA.out (by simp [gossamerref01_run.l0])
  | succ k1 =>
   have H := HA.out
   clear HA
   simp only [gossamerref01_run.l0] at H
   by_cases c3 : (wrap64 (a1 + x6_1)) < (a0.size : Int)
   ·rw [if_pos c3] at H
    have c3b0 : decide ((wrap64 (a1 + x6_1)) < (a0.size : Int)) = true := decide_eq_true c3
    clear c3
    obtain ⟨ji4, hji4⟩ : ∃ j_ : Int, (wrap64 (a1 + x6_1)) = j_ := ⟨_, rfl⟩
    replace H : (if 0 ≤ (ji4) then ((gossamerref01_class.f k1 (bt a0 (ji4))).bind fun t173 => (if t173 < 1 then (some (x6_1, x7_1)) else (if t173 > 3 then (some (x6_1, x7_1)) else (if x7_1 = true then (gossamerref01_run.l0 k1 a0 a1 (wrap64 (x6_1 + 1)) true) else (gossamerref01_run.l0 k1 a0 a1 (wrap64 (x6_1 + 1)) (decide (t173 < 3))))))) else (none)) = some (r1, r2) := by first | (rw [hji4] at H; exact H)|(simp only [hji4] at H ⊢; exact H)
    (try rw [hji4] at c3b0)
    have hji4w : (IntKind.i64.wrap (a1 + x6_1)) = ji4 := (i64_w _).trans hji4
    by_cases c5 : 0 ≤ (ji4)
    ·rw [if_pos c5] at H
     have c5b0 : decide (0 ≤ (ji4)) = true := decide_eq_true c5
     clear c5
     replace H := Option.bind_eq_some_iff.mp H
     obtain ⟨t173, A70, H⟩ := H
     replace H : (if t173 < 1 then (some (x6_1, x7_1)) else (if t173 > 3 then (some (x6_1, x7_1)) else (if x7_1 = true then (gossamerref01_run.l0 k1 a0 a1 (wrap64 (x6_1 + 1)) true) else (gossamerref01_run.l0 k1 a0 a1 (wrap64 (x6_1 + 1)) (decide (t173 < 3)))))) = some (r1, r2) := H
     have A7 := Aside0.mk A70
     clear A70
     by_cases c8 : t173 < 1
     ·rw [if_pos c8] at H
      have c8b0 : decide (t173 < 1) = true := decide_eq_true c8
      clear c8
      simp only [Option.some.injEq, Prod.mk.injEq] at H
      obtain ⟨rfl, rfl⟩ := H
      have p6 : 0 ≤ ((ji4) : Int) := of_decide_eq_true (by first|(with_reducible assumption) | assumption)
      have q6 : (ji4) < (a0.size : Int) := of_decide_eq_true (by first|(with_reducible assumption) | assumption)
      have hx6 := bt_at a0 (ji4)
      replace p6 := eq_true p6
      replace q6 := eq_true q6
      go_wp2_with (first|((with_reducible refine gate_callee (f := 67) rfl ?_); refine goesL_ (some 20) rfl rfl Tryz.func67 (by kernel_rfl) rfl #[.int .u8 (bt a0 (ji4))] rfl (by (try simp only [List.map_toArray, List.map_cons, List.map_nil]); first|done|(simp only [hji4]; rfl)|rfl|(simp only [List.length_drop, List.length_take]; rfl)) ?_; (with_reducible refine (gossamerref01_class.calls k1 (bt a0 (ji4)) t173 _ A7.out).mono ?_); rintro e w' ⟨rfl, ⟨nd, rfl⟩⟩; refine ⟨_, rfl, ?_⟩))
      go_ret2
      exact ⟨by first|rfl|(simp; done)|(simp only [← hji4] <;> (first|rfl | simp))|(simp [*]; done), by repeat (first|exact Drawn0.refl _|apply Drawn0.step)⟩
     ·rw [if_neg c8] at H
      have c8b0 : decide (t173 < 1) = false := decide_eq_false c8
      clear c8
      by_cases c9 : t173 > 3
      ·rw [if_pos c9] at H
       have c9b0 : decide (3 < t173) = true := decide_eq_true c9
       clear c9
       simp only [Option.some.injEq, Prod.mk.injEq] at H
       obtain ⟨rfl, rfl⟩ := H
       have p6 : 0 ≤ ((ji4) : Int) := of_decide_eq_true (by first|(with_reducible assumption) | assumption)
       have q6 : (ji4) < (a0.size : Int) := of_decide_eq_true (by first|(with_reducible assumption) | assumption)
       have hx6 := bt_at a0 (ji4)
       replace p6 := eq_true p6
       replace q6 := eq_true q6
       go_wp2_with (first|((with_reducible refine gate_callee (f := 67) rfl ?_); refine goesL_ (some 20) rfl rfl Tryz.func67 (by kernel_rfl) rfl #[.int .u8 (bt a0 (ji4))] rfl (by (try simp only [List.map_toArray, List.map_cons, List.map_nil]); first|done|(simp only [hji4]; rfl)|rfl|(simp only [List.length_drop, List.length_take]; rfl)) ?_; (with_reducible refine (gossamerref01_class.calls k1 (bt a0 (ji4)) t173 _ A7.out).mono ?_); rintro e w' ⟨rfl, ⟨nd, rfl⟩⟩; refine ⟨_, rfl, ?_⟩))
       go_ret2
       exact ⟨by first|rfl|(simp; done)|(simp only [← hji4] <;> (first|rfl | simp))|(simp [*]; done), by repeat (first|exact Drawn0.refl _|apply Drawn0.step)⟩
      ·rw [if_neg c9] at H
       have c9b0 : decide (3 < t173) = false := decide_eq_false c9
       clear c9
       by_cases c10 : x7_1 = true
       ·subst c10
        have H1 : (gossamerref01_run.l0 k1 a0 a1 (wrap64 (x6_1 + 1)) true) = some (r1, r2) := by rw [if_pos rfl] at H; exact H
        clear H
        have H := H1
        clear H1
        have H' := Aside0.mk H
        clear H
        have p6 : 0 ≤ ((ji4) : Int) := of_decide_eq_true (by first|(with_reducible assumption) | assumption)
        have q6 : (ji4) < (a0.size : Int) := of_decide_eq_true (by first|(with_reducible assumption) | assumption)
        have hx6 := bt_at a0 (ji4)
        replace p6 := eq_true p6
        replace q6 := eq_true q6
        go_wp2_with (first|((with_reducible refine gate_callee (f := 67) rfl ?_); refine goesL_ (some 20) rfl rfl Tryz.func67 (by kernel_rfl) rfl #[.int .u8 (bt a0 (ji4))] rfl (by (try simp only [List.map_toArray, List.map_cons, List.map_nil]); first|done|(simp only [hji4]; rfl)|rfl|(simp only [List.length_drop, List.length_take]; rfl)) ?_; (with_reducible refine (gossamerref01_class.calls k1 (bt a0 (ji4)) t173 _ A7.out).mono ?_); rintro e w' ⟨rfl, ⟨nd, rfl⟩⟩; refine ⟨_, rfl, ?_⟩))
        go_roundg k1
        case measure => have := HK1.out; omega
        case rel => exact ⟨(wrap64 (x6_1 + 1)), (true), (by first|rfl|(simp; done)|(simp [*]; done)), (by first|rfl|(simp; done)|(simp [*]; done)), H', ⟨by have := HK1.out; omega⟩, by repeat (first|exact Drawn0.refl _|apply Drawn0.step)⟩
       ·replace c10 := Bool.eq_false_iff.mpr c10
        subst c10
        have H1 : (gossamerref01_run.l0 k1 a0 a1 (wrap64 (x6_1 + 1)) (decide (t173 < 3))) = some (r1, r2) := by rw [if_neg (show ¬ (false = true) by decide)] at H; exact H
        clear H
        have H := H1
        clear H1
        have H' := Aside0.mk H
        clear H
        have p6 : 0 ≤ ((ji4) : Int) := of_decide_eq_true (by first|(with_reducible assumption) | assumption)
        have q6 : (ji4) < (a0.size : Int) := of_decide_eq_true (by first|(with_reducible assumption) | assumption)
        have hx6 := bt_at a0 (ji4)
        replace p6 := eq_true p6
        replace q6 := eq_true q6
        go_wp2_with (first|((with_reducible refine gate_callee (f := 67) rfl ?_); refine goesL_ (some 20) rfl rfl Tryz.func67 (by kernel_rfl) rfl #[.int .u8 (bt a0 (ji4))] rfl (by (try simp only [List.map_toArray, List.map_cons, List.map_nil]); first|done|(simp only [hji4]; rfl)|rfl|(simp only [List.length_drop, List.length_take]; rfl)) ?_; (with_reducible refine (gossamerref01_class.calls k1 (bt a0 (ji4)) t173 _ A7.out).mono ?_); rintro e w' ⟨rfl, ⟨nd, rfl⟩⟩; refine ⟨_, rfl, ?_⟩))
        go_roundg k1
        case measure => have := HK1.out; omega
        case rel => exact ⟨(wrap64 (x6_1 + 1)), (decide (t173 < 3)), (by first|rfl|(simp; done)|(simp [*]; done)), (by first|rfl|(simp; done)|(simp [*]; done)), H', ⟨by have := HK1.out; omega⟩, by repeat (first|exact Drawn0.refl _|apply Drawn0.step)⟩
    ·rw [if_neg c5] at H
     exact absurd H (by simp)
   ·rw [if_neg c3] at H
    have c3b0 : decide ((wrap64 (a1 + x6_1)) < (a0.size : Int)) = false := decide_eq_false c3
    clear c3
    simp only [Option.some.injEq, Prod.mk.injEq] at H
    obtain ⟨rfl, rfl⟩ := H
    go_wp2
    go_ret2
    exact ⟨by first|rfl|(simp; done)|(simp [*]; done), by repeat (first|exact Drawn0.refl _|apply Drawn0.step)⟩

end Go.Proofs.YtnjmilelifmfpaaGreatDoor.Q

namespace Go.Proofs.YtnjmilelifmfpaaGreatDoor.Q
open Go.RowKit Go.Proofs.YtnjmilelifmfpaaGreatDoorW.PrintWords Go.Proofs.YtnjmilelifmfpaaGreatDoorW.PrintLast Go.Proofs.YtnjmilelifmfpaaGreatDoorW.PrintMore
attribute [local go_sem] max2_int min2_int max_two min_two max_three min_three max_four min_four
set_option linter.unusedVariables false
set_option linter.unusedSimpArgs false

mutual
def gossamerref01_sign.j0 : Nat → ByteArray → Int → Bool → Option (Int)
 | 0, _, _, _ => none
 | k + 1, x0, x1, x26 => if x26 = true then (some 2) else (gossamerref01_sign.l0 k x0 x1 0)
def gossamerref01_sign.l0 : Nat → ByteArray → Int → Int → Option (Int)
 | 0, _, _, _ => none
 | k + 1, x0, x1, x5 => if x5 < 13 then (if 0 ≤ x5 then (if 0 ≤ x1 then (if x1 < (x0.size : Int) then (if (bt (⟨#[92, 46, 40, 41, 61, 123, 125, 124, 43, 45, 42, 47, 60]⟩ : ByteArray) x5) = (bt x0 x1) then (some 1) else (gossamerref01_sign.l0 k x0 x1 (wrap64 (x5 + 1)))) else (none)) else (none)) else (none)) else (some 0)
end
def gossamerref01_sign.f (k : Nat) (a0 : ByteArray) (a1 : Int) : Option (Int) := if (wrap64 (a1 + 1)) < (a0.size : Int) then (if 0 ≤ a1 then (if a1 ≤ (wrap64 (a1 + 2)) then (if (wrap64 (a1 + 2)) ≤ (a0.size : Int) then (if (a0.extract (a1 : Int).toNat ((wrap64 (a1 + 2)) : Int).toNat).toList = ([45, 62] : List UInt8) then (gossamerref01_sign.j0 k a0 a1 true) else (gossamerref01_sign.j0 k a0 a1 ((a0.extract (a1 : Int).toNat ((wrap64 (a1 + 2)) : Int).toNat).toList == ([61, 61] : List UInt8)))) else (none)) else (none)) else (none)) else (gossamerref01_sign.j0 k a0 a1 false)
theorem gossamerref01_sign.mono_l : ∀ k, (∀ y0 y1 y2, LeO (gossamerref01_sign.j0 k y0 y1 y2) (gossamerref01_sign.j0 (k + 1) y0 y1 y2)) ∧ (∀ y0 y1 y2, LeO (gossamerref01_sign.l0 k y0 y1 y2) (gossamerref01_sign.l0 (k + 1) y0 y1 y2))
 | 0 => ⟨fun _ _ _ r h => by simp [gossamerref01_sign.j0] at h, fun _ _ _ r h => by simp [gossamerref01_sign.l0] at h⟩
 | k + 1 => by
  obtain ⟨ih0, ih1⟩ := gossamerref01_sign.mono_l k
  refine ⟨?_, ?_⟩
  ·intro y0 y1 y2
   unfold gossamerref01_sign.j0
   repeat' first
  |(with_reducible exact ih0 _ _ _)
  |(with_reducible exact ih1 _ _ _)
  |(with_reducible exact LeO.refl _)
  |(with_reducible exact LeO.none _)
  |(with_reducible refine LeO.ite ?_ ?_)
  |(with_reducible refine LeO.bind ?_ (fun _ => ?_))
  |exact ih0 _ _ _
  |exact ih1 _ _ _
  |exact LeO.none _
  |refine LeO.ite ?_ ?_
  |refine LeO.bind ?_ (fun _ => ?_)
  ·intro y0 y1 y2
   unfold gossamerref01_sign.l0
   repeat' first
  |(with_reducible exact ih0 _ _ _)
  |(with_reducible exact ih1 _ _ _)
  |(with_reducible exact LeO.refl _)
  |(with_reducible exact LeO.none _)
  |(with_reducible refine LeO.ite ?_ ?_)
  |(with_reducible refine LeO.bind ?_ (fun _ => ?_))
  |exact ih0 _ _ _
  |exact ih1 _ _ _
  |exact LeO.none _
  |refine LeO.ite ?_ ?_
  |refine LeO.bind ?_ (fun _ => ?_)
theorem gossamerref01_sign.mono : ∀ a0 a1 k, LeO (gossamerref01_sign.f k a0 a1) (gossamerref01_sign.f (k + 1) a0 a1) := by
 intro a0 a1 k
 obtain ⟨ih0, ih1⟩ := gossamerref01_sign.mono_l k
 unfold gossamerref01_sign.f
 repeat' first
  |(with_reducible exact ih0 _ _ _)
  |(with_reducible exact ih1 _ _ _)
  |(with_reducible exact LeO.refl _)
  |(with_reducible exact LeO.none _)
  |(with_reducible refine LeO.ite ?_ ?_)
  |(with_reducible refine LeO.bind ?_ (fun _ => ?_))
  |exact ih0 _ _ _
  |exact ih1 _ _ _
  |exact LeO.none _
  |refine LeO.ite ?_ ?_
  |refine LeO.bind ?_ (fun _ => ?_)
set_option maxHeartbeats 8000000 in
set_option maxRecDepth 100000 in
theorem gossamerref01_sign.calls (k : Nat) (a0 : ByteArray) (a1 : Int) (r : Int) (w : World) (h : gossamerref01_sign.f k a0 a1 = some r) :
  Calls Tryz.prog 97 #[.string a0, .int .i64 a1] w fun e w' => e = .returned (.int .i64 r) ∧ Drawn0 w w' := by
 have H : (if (wrap64 (a1 + 1)) < (a0.size : Int) then (if 0 ≤ a1 then (if a1 ≤ (wrap64 (a1 + 2)) then (if (wrap64 (a1 + 2)) ≤ (a0.size : Int) then (if (a0.extract (a1 : Int).toNat ((wrap64 (a1 + 2)) : Int).toNat).toList = ([45, 62] : List UInt8) then (gossamerref01_sign.j0 k a0 a1 true) else (gossamerref01_sign.j0 k a0 a1 ((a0.extract (a1 : Int).toNat ((wrap64 (a1 + 2)) : Int).toNat).toList == ([61, 61] : List UInt8)))) else (none)) else (none)) else (none)) else (gossamerref01_sign.j0 k a0 a1 false)) = some r := h
 clear h
 have HC3 := Aside0.mk H
 clear H
 go_enter Tryz.func97, Tryz.ntmps97
 go_upto_region 1 with (fail)
 repeat (go_quiet (fail); go_upto_region 1 with (fail))
 go_cut [26] (fun v26 wc => ∃ (kq : Nat) (x26_2 : Bool), v26 = .bool x26_2 ∧ Aside0 (gossamerref01_sign.j0 kq a0 a1 x26_2 = some r) ∧ Aside0 (kq ≤ k) ∧ Drawn0 w wc)
 case first =>
  have H := HC3.out
  clear HC3
  by_cases c4 : (wrap64 (a1 + 1)) < (a0.size : Int)
  ·rw [if_pos c4] at H
   have c4b0 : decide ((wrap64 (a1 + 1)) < (a0.size : Int)) = true := decide_eq_true c4
   clear c4
   (first|rw [c4b0]|(simp only [i64_w, i32_w]; rw [c4b0]) | skip)
   by_cases c5 : 0 ≤ a1
   ·rw [if_pos c5] at H
    have c5b0 := eq_true c5
    have c5b1 : decide (0 ≤ a1) = true := decide_eq_true c5
    clear c5
    by_cases c6 : a1 ≤ (wrap64 (a1 + 2))
    ·rw [if_pos c6] at H
     have c6b0 := eq_true c6
     have c6b1 : decide (a1 ≤ (wrap64 (a1 + 2))) = true := decide_eq_true c6
     by_cases c7 : (wrap64 (a1 + 2)) ≤ (a0.size : Int)
     ·rw [if_pos c7] at H
      have c7b0 := eq_true c7
      have c7b1 : decide ((wrap64 (a1 + 2)) ≤ (a0.size : Int)) = true := decide_eq_true c7
      by_cases c8 : (a0.extract (a1 : Int).toNat ((wrap64 (a1 + 2)) : Int).toNat).toList = ([45, 62] : List UInt8)
      ·rw [if_pos c8] at H
       have c8b0 : ((a0.extract (a1 : Int).toNat ((wrap64 (a1 + 2)) : Int).toNat).toList == ([45, 62] : List UInt8)) = true := beq_iff_eq.mpr c8
       have c8b1 : ((a0.extract (a1 : Int).toNat ((wrap64 (a1 + 2)) : Int).toNat).toList != ([45, 62] : List UInt8)) = false := bne_eq_false_iff_eq.mpr c8
       clear c8
       have H' := Aside0.mk H
       clear H
       go_wp2
       repeat (go_quiet (fail); try go_wp2)
       go_meet
       case rel => exact ⟨_, (true), (by first|rfl|(simp; done)|(simp [*]; done)), H', ⟨by first | omega|exact Nat.le_refl _⟩, by repeat (first|exact Drawn0.refl _|apply Drawn0.step)⟩
      ·rw [if_neg c8] at H
       have c8b0 : ((a0.extract (a1 : Int).toNat ((wrap64 (a1 + 2)) : Int).toNat).toList == ([45, 62] : List UInt8)) = false := beq_eq_false_iff_ne.mpr c8
       have c8b1 : ((a0.extract (a1 : Int).toNat ((wrap64 (a1 + 2)) : Int).toNat).toList != ([45, 62] : List UInt8)) = true := bne_iff_ne.mpr c8
       have c9b0 := eq_true (of_decide_eq_true (by first|(with_reducible assumption) | assumption) : 0 ≤ a1)
       have c10b0 := eq_true (of_decide_eq_true (by first|(with_reducible assumption) | assumption) : a1 ≤ (wrap64 (a1 + 2)))
       have c11b0 := eq_true (of_decide_eq_true (by first|(with_reducible assumption) | assumption) : (wrap64 (a1 + 2)) ≤ (a0.size : Int))
       have H' := Aside0.mk H
       clear H
       go_wp2
       repeat (go_quiet (fail); try go_wp2)
       go_meet
       case rel => exact ⟨_, (((a0.extract (a1 : Int).toNat ((wrap64 (a1 + 2)) : Int).toNat).toList == ([61, 61] : List UInt8))), (by first|rfl|(simp; done)|(simp [*]; done)), H', ⟨by first | omega|exact Nat.le_refl _⟩, by repeat (first|exact Drawn0.refl _|apply Drawn0.step)⟩
     ·rw [if_neg c7] at H
      exact absurd H (by simp)
    ·rw [if_neg c6] at H
     exact absurd H (by simp)
   ·rw [if_neg c5] at H
    exact absurd H (by simp)
  ·rw [if_neg c4] at H
   have c4b0 : decide ((wrap64 (a1 + 1)) < (a0.size : Int)) = false := decide_eq_false c4
   clear c4
   (first|rw [c4b0]|(simp only [i64_w, i32_w]; rw [c4b0]) | skip)
   have H' := Aside0.mk H
   clear H
   go_wp2
   repeat (go_quiet (fail); try go_wp2)
   go_meet
   case rel => exact ⟨_, (false), (by first|rfl|(simp; done)|(simp [*]; done)), H', ⟨by first | omega|exact Nat.le_refl _⟩, by repeat (first|exact Drawn0.refl _|apply Drawn0.step)⟩
 case rest =>
  clear HC3
  try clear c1
  try clear p2
  try clear c4
  try clear c4b0
  try clear c5
  try clear c5b0
  try clear c5b1
  try clear c6
  try clear c6b0
  try clear c6b1
  try clear p6
  try clear c7
  try clear c7b0
  try clear c7b1
  try clear c8
  try clear c8b0
  try clear c8b1
  try clear c9
  try clear c9b0
  try clear c10
  try clear c10b0
  try clear c11
  try clear c11b0
  obtain ⟨kq, x26_2, rfl, HA, HJ2, ⟨mc2, rfl⟩⟩ := hcut
  cases kq with
  | zero => exact absurd HA.out (by simp [gossamerref01_sign.j0])
  | succ kj2 =>
   have H := HA.out
   clear HA
   simp only [gossamerref01_sign.j0] at H
   by_cases c12 : x26_2 = true
   ·subst c12
    have H1 : (some 2) = some r := by rw [if_pos rfl] at H; exact H
    clear H
    have H := H1
    clear H1
    obtain rfl := Option.some.inj H
    go_wp2
    repeat (go_quiet (fail); try go_wp2)
    go_ret
    exact ⟨by first|rfl|(simp; done)|(simp [*]; done), by repeat (first|exact Drawn0.refl _|apply Drawn0.step)⟩
   ·replace c12 := Bool.eq_false_iff.mpr c12
    subst c12
    have H1 : (gossamerref01_sign.l0 kj2 a0 a1 0) = some r := by rw [if_neg (show ¬ (false = true) by decide)] at H; exact H
    clear H
    have H := H1
    clear H1
    have H' := Aside0.mk H
    clear H
    go_wp2
    repeat (go_quiet (fail); try go_wp2)
    go_loopg [5] kj2 (fun kq v5 w' => ∃ (x5_2 : Int), v5 = .int .i64 x5_2 ∧ Aside0 (gossamerref01_sign.l0 kq a0 a1 x5_2 = some r) ∧ Aside0 (kq ≤ kj2) ∧ Drawn0 w w')
    case atStart => exact ⟨(0), (by first|rfl|(simp; done)|(simp [*]; done)), H', ⟨Nat.le_refl _⟩, by repeat (first|exact Drawn0.refl _|apply Drawn0.step)⟩
    case round =>
     clear H'
     try clear c1
     try clear c2
     try clear p2
     try clear c4
     try clear c4b0
     try clear c5
     try clear c5b0
     try clear c5b1
     try clear c6
     try clear c6b0
     try clear c6b1
     try clear p6
     try clear c7
     try clear c7b0
     try clear c7b1
     try clear c8
     try clear c8b0
     try clear c8b1
     try clear c9
     try clear c9b0
     try clear c10
     try clear c10b0
     try clear c11
     try clear c11b0
     try clear c12
     try clear p2
     try clear p6
     obtain ⟨x5_2, rfl, HA, HK2, ⟨m2, rfl⟩⟩ := hrel
     cases gk with
     | zero => exact absurd HA.out (by simp [gossamerref01_sign.l0])
     | succ k2 =>
      have H := HA.out
      clear HA
      simp only [gossamerref01_sign.l0] at H
      by_cases c13 : x5_2 < 13
      ·rw [if_pos c13] at H
       have c13b0 : decide (x5_2 < 13) = true := decide_eq_true c13
       clear c13
       by_cases c14 : 0 ≤ x5_2
       ·rw [if_pos c14] at H
        have c14b0 : decide (0 ≤ x5_2) = true := decide_eq_true c14
        clear c14
        by_cases c16 : 0 ≤ a1
        ·rw [if_pos c16] at H
         have c16b0 : decide (0 ≤ a1) = true := decide_eq_true c16
         clear c16
         by_cases c17 : a1 < (a0.size : Int)
         ·rw [if_pos c17] at H
          have c17b0 : decide (a1 < (a0.size : Int)) = true := decide_eq_true c17
          clear c17
          by_cases c19 : (bt (⟨#[92, 46, 40, 41, 61, 123, 125, 124, 43, 45, 42, 47, 60]⟩ : ByteArray) x5_2) = (bt a0 a1)
          ·rw [if_pos c19] at H
           have c19b0 : ((bt (⟨#[92, 46, 40, 41, 61, 123, 125, 124, 43, 45, 42, 47, 60]⟩ : ByteArray) x5_2) == (bt a0 a1)) = true := beq_iff_eq.mpr c19
           have c19b1 : ((bt (⟨#[92, 46, 40, 41, 61, 123, 125, 124, 43, 45, 42, 47, 60]⟩ : ByteArray) x5_2) != (bt a0 a1)) = false := bne_eq_false_iff_eq.mpr c19
           clear c19
           obtain rfl := Option.some.inj H
           have p15 : 0 ≤ (x5_2 : Int) := of_decide_eq_true (by first|(with_reducible assumption) | assumption)
           have q15 : x5_2 < (13 : Int) := of_decide_eq_true (by first|(with_reducible assumption) | assumption)
           have hx15 := bt_at (⟨#[92, 46, 40, 41, 61, 123, 125, 124, 43, 45, 42, 47, 60]⟩ : ByteArray) x5_2
           replace p15 := eq_true p15
           replace q15 := eq_true q15
           have p18 : 0 ≤ (a1 : Int) := of_decide_eq_true (by first|(with_reducible assumption) | assumption)
           have q18 : a1 < (a0.size : Int) := of_decide_eq_true (by first|(with_reducible assumption) | assumption)
           have hx18 := bt_at a0 a1
           replace p18 := eq_true p18
           replace q18 := eq_true q18
           go_wp2
           repeat (go_quiet (fail); try go_wp2)
           go_ret
           exact ⟨by first|rfl|(simp; done)|(simp [*]; done), by repeat (first|exact Drawn0.refl _|apply Drawn0.step)⟩
          ·rw [if_neg c19] at H
           have c19b0 : ((bt (⟨#[92, 46, 40, 41, 61, 123, 125, 124, 43, 45, 42, 47, 60]⟩ : ByteArray) x5_2) == (bt a0 a1)) = false := beq_eq_false_iff_ne.mpr c19
           have c19b1 : ((bt (⟨#[92, 46, 40, 41, 61, 123, 125, 124, 43, 45, 42, 47, 60]⟩ : ByteArray) x5_2) != (bt a0 a1)) = true := bne_iff_ne.mpr c19
           have H' := Aside0.mk H
           clear H
           have p15 : 0 ≤ (x5_2 : Int) := of_decide_eq_true (by first|(with_reducible assumption) | assumption)
           have q15 : x5_2 < (13 : Int) := of_decide_eq_true (by first|(with_reducible assumption) | assumption)
           have hx15 := bt_at (⟨#[92, 46, 40, 41, 61, 123, 125, 124, 43, 45, 42, 47, 60]⟩ : ByteArray) x5_2
           replace p15 := eq_true p15
           replace q15 := eq_true q15
           have p18 : 0 ≤ (a1 : Int) := of_decide_eq_true (by first|(with_reducible assumption) | assumption)
           have q18 : a1 < (a0.size : Int) := of_decide_eq_true (by first|(with_reducible assumption) | assumption)
           have hx18 := bt_at a0 a1
           replace p18 := eq_true p18
           replace q18 := eq_true q18
           go_wp2
           repeat (go_quiet (fail); try go_wp2)
           go_roundg k2
           case measure => have := HJ2.out; have := HK2.out; omega
           case rel => exact ⟨(wrap64 (x5_2 + 1)), (by first|rfl|(simp; done)|(simp [*]; done)), H', ⟨by have := HJ2.out; have := HK2.out; omega⟩, by repeat (first|exact Drawn0.refl _|apply Drawn0.step)⟩
         ·rw [if_neg c17] at H
          exact absurd H (by simp)
        ·rw [if_neg c16] at H
         exact absurd H (by simp)
       ·rw [if_neg c14] at H
        exact absurd H (by simp)
      ·rw [if_neg c13] at H
       have c13b0 : decide (x5_2 < 13) = false := decide_eq_false c13
       clear c13
       obtain rfl := Option.some.inj H
       go_wp2
       repeat (go_quiet (fail); try go_wp2)
       go_ret
       exact ⟨by first|rfl|(simp; done)|(simp [*]; done), by repeat (first|exact Drawn0.refl _|apply Drawn0.step)⟩

end Go.Proofs.YtnjmilelifmfpaaGreatDoor.Q

namespace Go.Proofs.YtnjmilelifmfpaaGreatDoor.Q
open Go.RowKit Go.Proofs.YtnjmilelifmfpaaGreatDoorW.PrintWords Go.Proofs.YtnjmilelifmfpaaGreatDoorW.PrintLast Go.Proofs.YtnjmilelifmfpaaGreatDoorW.PrintMore
attribute [local go_sem] max2_int min2_int max_two min_two max_three min_three max_four min_four
set_option linter.unusedVariables false
set_option linter.unusedSimpArgs false

def gossamerref01_number.l0 : Nat → ByteArray → Int → Int → Option (Int)
 | 0, _, _, _ => none
 | k + 1, x0, x3, x4 => if x4 < (x0.size : Int) then (if 0 ≤ x4 then (gossamerref01_number.l0 k x0 (wrap64 ((wrap64 ((wrap64 (10 * x3)) + (wrap64 (bt x0 x4)))) - 48)) (wrap64 (x4 + 1))) else (none)) else (some x3)
def gossamerref01_number.f (k : Nat) (a0 : ByteArray) : Option (Int) := gossamerref01_number.l0 k a0 0 0
theorem gossamerref01_number.mono_l : ∀ k, (∀ y0 y1 y2, LeO (gossamerref01_number.l0 k y0 y1 y2) (gossamerref01_number.l0 (k + 1) y0 y1 y2))
 | 0 => fun _ _ _ r h => by simp [gossamerref01_number.l0] at h
 | k + 1 => by
  have ih0 := gossamerref01_number.mono_l k
  ·intro y0 y1 y2
   unfold gossamerref01_number.l0
   repeat' first
  |(with_reducible exact ih0 _ _ _)
  |(with_reducible exact LeO.refl _)
  |(with_reducible exact LeO.none _)
  |(with_reducible refine LeO.ite ?_ ?_)
  |(with_reducible refine LeO.bind ?_ (fun _ => ?_))
  |exact ih0 _ _ _
  |exact LeO.none _
  |refine LeO.ite ?_ ?_
  |refine LeO.bind ?_ (fun _ => ?_)
theorem gossamerref01_number.mono : ∀ a0 k, LeO (gossamerref01_number.f k a0) (gossamerref01_number.f (k + 1) a0) := by
 intro a0 k
 have ih0 := gossamerref01_number.mono_l k
 unfold gossamerref01_number.f
 repeat' first
  |(with_reducible exact ih0 _ _ _)
  |(with_reducible exact LeO.refl _)
  |(with_reducible exact LeO.none _)
  |(with_reducible refine LeO.ite ?_ ?_)
  |(with_reducible refine LeO.bind ?_ (fun _ => ?_))
  |exact ih0 _ _ _
  |exact LeO.none _
  |refine LeO.ite ?_ ?_
  |refine LeO.bind ?_ (fun _ => ?_)
set_option maxHeartbeats 8000000 in
set_option maxRecDepth 100000 in
theorem gossamerref01_number.calls (k : Nat) (a0 : ByteArray) (r : Int) (w : World) (h : gossamerref01_number.f k a0 = some r) :
  Calls Tryz.prog 98 #[.string a0] w fun e w' => e = .returned (.int .i64 r) ∧ Drawn0 w w' := by
 have H : (gossamerref01_number.l0 k a0 0 0) = some r := h
 clear h
 have H' := Aside0.mk H
 clear H
 go_enter Tryz.func98, Tryz.ntmps98
 go_wp2
 go_loopg [3, 4] k (fun kq v3 v4 w' => ∃ (x3_1 : Int) (x4_1 : Int), v3 = .int .i64 x3_1 ∧ v4 = .int .i64 x4_1 ∧ Aside0 (gossamerref01_number.l0 kq a0 x3_1 x4_1 = some r) ∧ Aside0 (kq ≤ k) ∧ Drawn0 w w')
 case atStart => exact ⟨(0), (0), (by first|rfl|(simp; done)|(simp [*]; done)), (by first|rfl|(simp; done)|(simp [*]; done)), H', ⟨Nat.le_refl _⟩, by repeat (first|exact Drawn0.refl _|apply Drawn0.step)⟩
 case round =>
  clear H'
  obtain ⟨x3_1, x4_1, rfl, rfl, HA, HK1, ⟨m1, rfl⟩⟩ := hrel
  cases gk with
  | zero => exact absurd HA.out (by simp [gossamerref01_number.l0])
  | succ k1 =>
   have H := HA.out
   clear HA
   simp only [gossamerref01_number.l0] at H
   by_cases c2 : x4_1 < (a0.size : Int)
   ·rw [if_pos c2] at H
    have c2b0 : decide (x4_1 < (a0.size : Int)) = true := decide_eq_true c2
    clear c2
    by_cases c3 : 0 ≤ x4_1
    ·rw [if_pos c3] at H
     have c3b0 : decide (0 ≤ x4_1) = true := decide_eq_true c3
     clear c3
     have H' := Aside0.mk H
     clear H
     have p4 : 0 ≤ (x4_1 : Int) := of_decide_eq_true (by first|(with_reducible assumption) | assumption)
     have q4 : x4_1 < (a0.size : Int) := of_decide_eq_true (by first|(with_reducible assumption) | assumption)
     have hx4 := bt_at a0 x4_1
     replace p4 := eq_true p4
     replace q4 := eq_true q4
     go_wp2
     go_roundg k1
     case measure => have := HK1.out; omega
     case rel => exact ⟨(wrap64 ((wrap64 ((wrap64 (10 * x3_1)) + (wrap64 (bt a0 x4_1)))) - 48)), (wrap64 (x4_1 + 1)), (by first|rfl|(simp; done)|(simp [*]; done)), (by first|rfl|(simp; done)|(simp [*]; done)), H', ⟨by have := HK1.out; omega⟩, by repeat (first|exact Drawn0.refl _|apply Drawn0.step)⟩
    ·rw [if_neg c3] at H
     exact absurd H (by simp)
   ·rw [if_neg c2] at H
    have c2b0 : decide (x4_1 < (a0.size : Int)) = false := decide_eq_false c2
    clear c2
    obtain rfl := Option.some.inj H
    go_wp2
    go_ret
    exact ⟨by first|rfl|(simp; done)|(simp [*]; done), by repeat (first|exact Drawn0.refl _|apply Drawn0.step)⟩

end Go.Proofs.YtnjmilelifmfpaaGreatDoor.Q

namespace Go.Proofs.YtnjmilelifmfpaaGreatDoor.Q
open Go.RowKit Go.Proofs.YtnjmilelifmfpaaGreatDoorW.PrintWords Go.Proofs.YtnjmilelifmfpaaGreatDoorW.PrintLast Go.Proofs.YtnjmilelifmfpaaGreatDoorW.PrintMore
attribute [local go_sem] max2_int min2_int max_two min_two max_three min_three max_four min_four
set_option linter.unusedVariables false
set_option linter.unusedSimpArgs false

def gossamerref01_Word.f (a0 : ByteArray) : Option (Bool) := if a0.toList = ([108, 101, 116] : List UInt8) then (some true) else (if a0.toList = ([108, 101, 116, 114, 101, 99] : List UInt8) then (some true) else (if a0.toList = ([105, 110] : List UInt8) then (some true) else (if a0.toList = ([99, 97, 115, 101] : List UInt8) then (some true) else (some (a0.toList == ([111, 102] : List UInt8))))))
set_option maxHeartbeats 8000000 in
set_option maxRecDepth 100000 in
theorem gossamerref01_Word.calls (a0 : ByteArray) (r : Bool) (w : World) (h : gossamerref01_Word.f a0 = some r) :
  Calls Tryz.prog 99 #[.string a0] w fun e w' => e = .returned (.bool r) ∧ Drawn0 w w' := by
 have H : (if a0.toList = ([108, 101, 116] : List UInt8) then (some true) else (if a0.toList = ([108, 101, 116, 114, 101, 99] : List UInt8) then (some true) else (if a0.toList = ([105, 110] : List UInt8) then (some true) else (if a0.toList = ([99, 97, 115, 101] : List UInt8) then (some true) else (some (a0.toList == ([111, 102] : List UInt8))))))) = some r := h
 clear h
 by_cases c2 : a0.toList = ([108, 101, 116] : List UInt8)
 ·rw [if_pos c2] at H
  have c2b0 : (a0.toList == ([108, 101, 116] : List UInt8)) = true := beq_iff_eq.mpr c2
  have c2b1 : (a0.toList != ([108, 101, 116] : List UInt8)) = false := bne_eq_false_iff_eq.mpr c2
  clear c2
  obtain rfl := Option.some.inj H
  go_enter Tryz.func99, Tryz.ntmps99
  go_wp2
  go_ret
  exact ⟨by first|rfl|(simp; done)|(simp [*]; done), by repeat (first|exact Drawn0.refl _|apply Drawn0.step)⟩
 ·rw [if_neg c2] at H
  have c2b0 : (a0.toList == ([108, 101, 116] : List UInt8)) = false := beq_eq_false_iff_ne.mpr c2
  have c2b1 : (a0.toList != ([108, 101, 116] : List UInt8)) = true := bne_iff_ne.mpr c2
  by_cases c3 : a0.toList = ([108, 101, 116, 114, 101, 99] : List UInt8)
  ·rw [if_pos c3] at H
   have c3b0 : (a0.toList == ([108, 101, 116, 114, 101, 99] : List UInt8)) = true := beq_iff_eq.mpr c3
   have c3b1 : (a0.toList != ([108, 101, 116, 114, 101, 99] : List UInt8)) = false := bne_eq_false_iff_eq.mpr c3
   clear c3
   obtain rfl := Option.some.inj H
   go_enter Tryz.func99, Tryz.ntmps99
   go_wp2
   go_ret
   exact ⟨by first|rfl|(simp; done)|(simp [*]; done), by repeat (first|exact Drawn0.refl _|apply Drawn0.step)⟩
  ·rw [if_neg c3] at H
   have c3b0 : (a0.toList == ([108, 101, 116, 114, 101, 99] : List UInt8)) = false := beq_eq_false_iff_ne.mpr c3
   have c3b1 : (a0.toList != ([108, 101, 116, 114, 101, 99] : List UInt8)) = true := bne_iff_ne.mpr c3
   by_cases c4 : a0.toList = ([105, 110] : List UInt8)
   ·rw [if_pos c4] at H
    have c4b0 : (a0.toList == ([105, 110] : List UInt8)) = true := beq_iff_eq.mpr c4
    have c4b1 : (a0.toList != ([105, 110] : List UInt8)) = false := bne_eq_false_iff_eq.mpr c4
    clear c4
    obtain rfl := Option.some.inj H
    go_enter Tryz.func99, Tryz.ntmps99
    go_wp2
    go_ret
    exact ⟨by first|rfl|(simp; done)|(simp [*]; done), by repeat (first|exact Drawn0.refl _|apply Drawn0.step)⟩
   ·rw [if_neg c4] at H
    have c4b0 : (a0.toList == ([105, 110] : List UInt8)) = false := beq_eq_false_iff_ne.mpr c4
    have c4b1 : (a0.toList != ([105, 110] : List UInt8)) = true := bne_iff_ne.mpr c4
    by_cases c5 : a0.toList = ([99, 97, 115, 101] : List UInt8)
    ·rw [if_pos c5] at H
     have c5b0 : (a0.toList == ([99, 97, 115, 101] : List UInt8)) = true := beq_iff_eq.mpr c5
     have c5b1 : (a0.toList != ([99, 97, 115, 101] : List UInt8)) = false := bne_eq_false_iff_eq.mpr c5
     clear c5
     obtain rfl := Option.some.inj H
     go_enter Tryz.func99, Tryz.ntmps99
     go_wp2
     go_ret
     exact ⟨by first|rfl|(simp; done)|(simp [*]; done), by repeat (first|exact Drawn0.refl _|apply Drawn0.step)⟩
    ·rw [if_neg c5] at H
     have c5b0 : (a0.toList == ([99, 97, 115, 101] : List UInt8)) = false := beq_eq_false_iff_ne.mpr c5
     have c5b1 : (a0.toList != ([99, 97, 115, 101] : List UInt8)) = true := bne_iff_ne.mpr c5
     obtain rfl := Option.some.inj H
     go_enter Tryz.func99, Tryz.ntmps99
     go_wp2
     go_ret
     exact ⟨by first|rfl|(simp; done)|(simp [*]; done), by repeat (first|exact Drawn0.refl _|apply Drawn0.step)⟩

end Go.Proofs.YtnjmilelifmfpaaGreatDoor.Q

/- Plain Lean: what the library's functions say (the shelf's own words), in the words of HLex. -/
namespace Go.Proofs.YtnjmilelifmfpaaGreatDoor.HLex
open Go

theorem drop_cons_get (s : ByteArray) (i : Nat) (h : i < s.size) : s.data.toList.drop i = s[i] :: s.data.toList.drop (i + 1) := by
 have h' : i < s.data.toList.length := by simpa using h
 rw [List.drop_eq_getElem_cons h']
 rfl

theorem idxFrom (p : Nat → Bool) (q : UInt8 → Bool) (h1 : ∀ c : UInt8, c.toNat < 128 → p c.toNat = q c) (h2 : ∀ c : UInt8, 128 ≤ c.toNat → q c = true) (h3 : ∀ r, 128 ≤ r → p r = true) (s : ByteArray) :
  ∀ (f pos : Nat), pos ≤ s.size → s.size - pos ≤ f →
   Lib.idxFuncFrom p true s f pos = if pos + ((s.data.toList.drop pos).takeWhile (fun c => !q c)).length < s.size then ((pos + ((s.data.toList.drop pos).takeWhile (fun c => !q c)).length : Nat) : Int) else -1 := by
 intro f
 induction f with
 | zero =>
  intro pos hp hf
  have : pos = s.size := by omega
  rw [if_neg (by omega)]
  rfl
 | succ f ih =>
  intro pos hp hf
  unfold Lib.idxFuncFrom
  by_cases hlt : pos < s.size
  ·rw [if_pos hlt, drop_cons_get s pos hlt, List.takeWhile_cons]
   by_cases ha : (s[pos]).toNat < 128
   ·rw [decode_ascii s pos hlt ha, h1 _ ha]
    by_cases hq : q s[pos] = true
    ·rw [if_pos hq, hq]; simp [hlt]
    ·have hq' : q s[pos] = false := by simpa using hq
     rw [if_neg hq, hq', ih (pos + 1) (by omega) (by omega)]
     simp only [Bool.not_false, if_true, List.length_cons]
     rw [show pos + 1 + (List.takeWhile (fun c => !q c) (List.drop (pos + 1) s.data.toList)).length = pos + ((List.takeWhile (fun c => !q c) (List.drop (pos + 1) s.data.toList)).length + 1) from by omega]
   ·have hd := decode_high s pos hlt (by omega)
    rw [h3 _ hd.1, if_pos rfl, h2 _ (by omega)]
    simp [hlt]
  ·rw [if_neg hlt]
   have : pos = s.size := by omega
   rw [if_neg (by omega)]

theorem takeWhile_len_le (q : UInt8 → Bool) (l : List UInt8) : (l.takeWhile q).length ≤ l.length := by
 induction l with
 | nil => simp
 | cons a t ih => rw [List.takeWhile_cons]; split <;> simp <;> omega

theorem takeWhile_take (q : UInt8 → Bool) (l : List UInt8) : l.take (l.takeWhile q).length = l.takeWhile q := by
 induction l with
 | nil => simp
 | cons a t ih => rw [List.takeWhile_cons]; split <;> simp [ih]

theorem takeWhile_all {q : UInt8 → Bool} {l : List UInt8} (h : (l.takeWhile q).length = l.length) : l.takeWhile q = l := by
 have := takeWhile_take q l
 rw [h, List.take_length] at this
 exact this.symm

def pRun (r : Nat) : Bool := decide (127 < r) || !(decide (97 ≤ r) && decide (r ≤ 122) || decide (65 ≤ r) && decide (r ≤ 90) || decide (48 ≤ r) && decide (r ≤ 57))
theorem idx_run (s : ByteArray) : Lib.idxFunc pRun true s = if (s.data.toList.takeWhile wordly).length < s.size then ((s.data.toList.takeWhile wordly).length : Int) else -1 := by
 have h := idxFrom pRun (fun c => !wordly c) ?_ ?_ ?_ s s.size 0 (Nat.zero_le _) (by omega)
 ·unfold Lib.idxFunc
  simpa using h
 ·intro c hc
  unfold pRun wordly lower upper digit
  have : decide (127 < c.toNat) = false := by simp; omega
  rw [this]; simp
 ·intro c hc
  unfold wordly lower upper digit
  have e1 : decide (c.toNat ≤ 122) = false := by simp; omega
  have e2 : decide (c.toNat ≤ 90) = false := by simp; omega
  have e3 : decide (c.toNat ≤ 57) = false := by simp; omega
  simp [e1, e2, e3]
 ·intro r hr
  unfold pRun
  have : decide (127 < r) = true := by simp; omega
  simp [this]

def pBig (r : Nat) : Bool := decide (57 < r)
theorem takeWhile_any (q : UInt8 → Bool) (l : List UInt8) : (l.takeWhile (fun c => !q c)).length < l.length ↔ l.any q = true := by
 induction l with
 | nil => simp
 | cons a t ih =>
  rw [List.takeWhile_cons, List.any_cons]
  cases h : q a <;> simp [ih]
theorem idx_big (s : ByteArray) : decide (0 ≤ Lib.idxFunc pBig true s) = s.data.toList.any (fun c => decide (57 < c.toNat)) := by
 have h := idxFrom pBig (fun c => decide (57 < c.toNat)) (fun _ _ => rfl) (fun c hc => decide_eq_true (by omega)) (fun r hr => decide_eq_true (by omega)) s s.size 0 (Nat.zero_le _) (by omega)
 have e : Lib.idxFunc pBig true s = _ := h
 rw [e]
 have ha := takeWhile_any (fun c => decide (57 < c.toNat)) s.data.toList
 have hs : s.data.toList.length = s.size := Array.length_toList
 simp only [List.drop_zero, Nat.zero_add]
 by_cases hb : s.data.toList.any (fun c => decide (57 < c.toNat)) = true
 ·rw [if_pos (by rw [← hs]; exact ha.2 hb), hb]; exact decide_eq_true (Int.natCast_nonneg _)
 ·rw [if_neg (by rw [← hs]; exact fun z => hb (ha.1 z))]
  have : s.data.toList.any (fun c => decide (57 < c.toNat)) = false := by simpa using hb
  rw [this]; simp

theorem trim_blank (l : List UInt8) : Lib.trimLeftS l [32, 10, 9] = l.dropWhile blank := by
 unfold Lib.trimLeftS
 congr 1
 funext c
 unfold blank
 rw [List.contains_cons, List.contains_cons, List.contains_cons, List.contains_nil, Bool.or_false, Bool.or_assoc]

theorem decFrom_num (l : List UInt8) : ∀ acc, (∀ c ∈ l, digit c = true) → Lib.decFrom acc l = some (l.foldl (fun n c => 10 * n + (c.toNat - 48)) acc) := by
 induction l with
 | nil => intro acc _; rfl
 | cons a t ih =>
  intro acc h
  have ha := h a (List.mem_cons_self ..)
  unfold digit at ha
  simp at ha
  unfold Lib.decFrom Lib.digitVal
  rw [if_pos ⟨ha.1, ha.2⟩]
  simp only [List.foldl_cons]
  rw [ih _ (fun c hc => h c (List.mem_cons_of_mem _ hc)), Nat.mul_comm]

theorem atoi_num (l : List UInt8) (hne : l ≠ []) (h : ∀ c ∈ l, digit c = true) : Lib.atoi l = some (num l : Int) := by
 cases l with
 | nil => exact absurd rfl hne
 | cons a t =>
  have ha := h a (List.mem_cons_self ..)
  unfold digit at ha
  simp at ha
  unfold Lib.atoi
  have e1 : (a == 45) = false := by
   apply beq_eq_false_iff_ne.2; rintro rfl; simp at ha
  have e2 : (a == 43) = false := by
   apply beq_eq_false_iff_ne.2; rintro rfl; simp at ha
  simp only [e1, e2, Bool.false_eq_true, if_false, Lib.decNat, List.isEmpty_cons]
  rw [decFrom_num _ 0 h]
  rfl

theorem first_prefix {l t : List UInt8} {k n : Nat} (h : first l = .ok (k, t, n)) : t <+: l ∧ t ≠ [] := by
 unfold first at h
 simp only at h
 split at h
 ·split at h
  ·rename_i s hs
   injection h with h
   injection h with h1 h2
   injection h2 with h2 h3
   subst h2
   refine ⟨by have := List.find?_some hs; simpa using this, ?_⟩
   have hm := List.mem_of_find?_eq_some hs
   rintro rfl
   exact absurd hm (by decide)
  ·cases h
 ·rename_i hne
  split at h
  ·injection h with h
   injection h with h1 h2
   injection h2 with h2 h3
   subst h2
   exact ⟨List.takeWhile_prefix _, hne⟩
  ·cases h

end Go.Proofs.YtnjmilelifmfpaaGreatDoor.HLex

/- The shelf's contracts at this translation, in plain words: each one application. -/
namespace Go.Proofs
open Go.Shelf
def Tryz.lays172_ren : Go.Shelf.Ren := ⟨fun | 172 => 139 | 244 => 145 | 245 => 146 | 247 => 151 | 279 => 152 | 280 => 153 | 281 => 154 | 282 => 155 | 287 => 157 | 316 => 158 | 171 => 160 | 205 => 159 | 321 => 162 | 322 => 163 | 243 => 164 | 246 => 165 | 283 => 166 | 284 => 167 | 285 => 168 | 286 => 169 | 129 => 171 | 317 => 170 | 318 => 172 | 319 => 173 | 320 => 174 | 337 => 175 | 338 => 176 | n => n, fun | 9 => 9 | 3 => 3 | 75 => 134 | 76 => 135 | 4 => 4 | 5 => 5 | 167 => 148 | 37 => 68 | 0 => 0 | 85 => 149 | 2 => 2 | 168 => 151 | 53 => 154 | 175 => 155 | 46 => 141 | 210 => 159 | 127 => 162 | 145 => 165 | 143 => 163 | 21 => 21 | 171 => 167 | 173 => 170 | 212 => 173 | 51 => 174 | 20 => 20 | 213 => 175 | 232 => 179 | 233 => 180 | 80 => 181 | n => n, fun | 15 => 3 | 16 => 4 | 17 => 5 | 18 => 6 | 19 => 7 | n => n⟩
theorem Tryz.lays172 : Go.Proofs.Lays.n172 Tryz.prog Tryz.lays172_ren := {
 mixed := by kernel_rfl
 f129 := Tryz.func171.trans (congrArg some (by kernel_rfl))
 f171 := Tryz.func160.trans (congrArg some (by kernel_rfl))
 f172 := Tryz.func139.trans (congrArg some (by kernel_rfl))
 f205 := Tryz.func159.trans (congrArg some (by kernel_rfl))
 f243 := Tryz.func164.trans (congrArg some (by kernel_rfl))
 f244 := Tryz.func145.trans (congrArg some (by kernel_rfl))
 f245 := Tryz.func146.trans (congrArg some (by kernel_rfl))
 f246 := Tryz.func165.trans (congrArg some (by kernel_rfl))
 f247 := Tryz.func151.trans (congrArg some (by kernel_rfl))
 f279 := Tryz.func152.trans (congrArg some (by kernel_rfl))
 f280 := Tryz.func153.trans (congrArg some (by kernel_rfl))
 f281 := Tryz.func154.trans (congrArg some (by kernel_rfl))
 f282 := Tryz.func155.trans (congrArg some (by kernel_rfl))
 f283 := Tryz.func166.trans (congrArg some (by kernel_rfl))
 f284 := Tryz.func167.trans (congrArg some (by kernel_rfl))
 f285 := Tryz.func168.trans (congrArg some (by kernel_rfl))
 f286 := Tryz.func169.trans (congrArg some (by kernel_rfl))
 f287 := Tryz.func157.trans (congrArg some (by kernel_rfl))
 f316 := Tryz.func158.trans (congrArg some (by kernel_rfl))
 f317 := Tryz.func170.trans (congrArg some (by kernel_rfl))
 f318 := Tryz.func172.trans (congrArg some (by kernel_rfl))
 f319 := Tryz.func173.trans (congrArg some (by kernel_rfl))
 f320 := Tryz.func174.trans (congrArg some (by kernel_rfl))
 f321 := Tryz.func162.trans (congrArg some (by kernel_rfl))
 f322 := Tryz.func163.trans (congrArg some (by kernel_rfl))
 f337 := Tryz.func175.trans (congrArg some (by kernel_rfl))
 f338 := Tryz.func176.trans (congrArg some (by kernel_rfl))
 t0 := Tryz.underlying0
 a0 := Tryz.isAgg0
 z0 := Tryz.sizeOf0
 v0 := Tryz.zeroValue0
 t2 := Tryz.underlying2
 a2 := Tryz.isAgg2
 z2 := Tryz.sizeOf2
 v2 := Tryz.zeroValue2
 t3 := Tryz.underlying3
 a3 := Tryz.isAgg3
 z3 := Tryz.sizeOf3
 v3 := Tryz.zeroValue3
 t4 := Tryz.underlying4
 a4 := Tryz.isAgg4
 z4 := Tryz.sizeOf4
 v4 := Tryz.zeroValue4
 t5 := Tryz.underlying5
 a5 := Tryz.isAgg5
 z5 := Tryz.sizeOf5
 v5 := Tryz.zeroValue5
 t9 := Tryz.underlying9
 a9 := Tryz.isAgg9
 z9 := Tryz.sizeOf9
 v9 := Tryz.zeroValue9
 t20 := Tryz.underlying20
 a20 := Tryz.isAgg20
 z20 := Tryz.sizeOf20
 v20 := Tryz.zeroValue20
 t21 := Tryz.underlying21
 a21 := Tryz.isAgg21
 z21 := Tryz.sizeOf21
 v21 := Tryz.zeroValue21
 t37 := Tryz.underlying68
 a37 := Tryz.isAgg68
 z37 := Tryz.sizeOf68
 v37 := Tryz.zeroValue68
 t46 := Tryz.underlying141
 a46 := Tryz.isAgg141
 z46 := Tryz.sizeOf141
 v46 := Tryz.zeroValue141
 t51 := Tryz.underlying174
 a51 := Tryz.isAgg174
 z51 := Tryz.sizeOf174
 v51 := Tryz.zeroValue174
 t53 := Tryz.underlying154
 a53 := Tryz.isAgg154
 z53 := Tryz.sizeOf154
 v53 := Tryz.zeroValue154
 t75 := Tryz.underlying134
 a75 := Tryz.isAgg134
 z75 := Tryz.sizeOf134
 v75 := Tryz.zeroValue134
 t76 := Tryz.underlying135
 a76 := Tryz.isAgg135
 z76 := Tryz.sizeOf135
 v76 := Tryz.zeroValue135
 t85 := Tryz.underlying149
 a85 := Tryz.isAgg149
 z85 := Tryz.sizeOf149
 v85 := Tryz.zeroValue149
 t127 := Tryz.underlying162
 a127 := Tryz.isAgg162
 z127 := Tryz.sizeOf162
 v127 := Tryz.zeroValue162
 t143 := Tryz.underlying163
 a143 := Tryz.isAgg163
 z143 := Tryz.sizeOf163
 v143 := Tryz.zeroValue163
 t145 := Tryz.underlying165
 a145 := Tryz.isAgg165
 z145 := Tryz.sizeOf165
 v145 := Tryz.zeroValue165
 t167 := Tryz.underlying148
 a167 := Tryz.isAgg148
 z167 := Tryz.sizeOf148
 v167 := Tryz.zeroValue148
 t168 := Tryz.underlying151
 a168 := Tryz.isAgg151
 z168 := Tryz.sizeOf151
 v168 := Tryz.zeroValue151
 t171 := Tryz.underlying167
 a171 := Tryz.isAgg167
 z171 := Tryz.sizeOf167
 v171 := Tryz.zeroValue167
 t173 := Tryz.underlying170
 a173 := Tryz.isAgg170
 z173 := Tryz.sizeOf170
 v173 := Tryz.zeroValue170
 t175 := Tryz.underlying155
 a175 := Tryz.isAgg155
 z175 := Tryz.sizeOf155
 v175 := Tryz.zeroValue155
 t210 := Tryz.underlying159
 a210 := Tryz.isAgg159
 z210 := Tryz.sizeOf159
 v210 := Tryz.zeroValue159
 t212 := Tryz.underlying173
 a212 := Tryz.isAgg173
 z212 := Tryz.sizeOf173
 v212 := Tryz.zeroValue173
 t213 := Tryz.underlying175
 a213 := Tryz.isAgg175
 z213 := Tryz.sizeOf175
 t232 := Tryz.underlying179
 a232 := Tryz.isAgg179
 z232 := Tryz.sizeOf179
 v232 := Tryz.zeroValue179
 t233 := Tryz.underlying180
 a233 := Tryz.isAgg180
 z233 := Tryz.sizeOf180
 v233 := Tryz.zeroValue180
 g15 := by kernel_rfl
 g16 := by kernel_rfl
 g17 := by kernel_rfl
 g18 := by kernel_rfl
 g19 := by kernel_rfl }
open Go.RowKit in
theorem Tryz.strconv_Atoi (s : ByteArray) (n : Int) (hl : s.size ≤ 18) (h : Lib.atoi s.data.toList = some n) (w : World) :
  Calls Tryz.prog 139 #[.string s] w fun e w' => e = .returned (.tuple #[.int .i64 n, .nilIface]) ∧ ∃ t, w' = Lib.bytesWorld w 5 t := Any.strconv_Atoi Tryz.lays172 s n hl h w
def Tryz.laysGw15_ren : Go.Shelf.Ren := ⟨fun | 15 => 118 | 20 => 133 | n => n, fun | 9 => 9 | 23 => 123 | 3 => 3 | 4 => 4 | 0 => 0 | 21 => 21 | n => n, fun | n => n⟩
theorem Tryz.laysGw15 : Go.Proofs.LaysGw.n15 Tryz.prog Tryz.laysGw15_ren := {
 mixed := by kernel_rfl
 f15 := Tryz.func118.trans (congrArg some (by kernel_rfl))
 f20 := Tryz.func133.trans (congrArg some (by kernel_rfl))
 t0 := Tryz.underlying0
 a0 := Tryz.isAgg0
 z0 := Tryz.sizeOf0
 v0 := Tryz.zeroValue0
 i0 := by kernel_rfl
 t3 := Tryz.underlying3
 a3 := Tryz.isAgg3
 z3 := Tryz.sizeOf3
 v3 := Tryz.zeroValue3
 i3 := by kernel_rfl
 t4 := Tryz.underlying4
 a4 := Tryz.isAgg4
 z4 := Tryz.sizeOf4
 v4 := Tryz.zeroValue4
 i4 := by kernel_rfl
 t9 := Tryz.underlying9
 a9 := Tryz.isAgg9
 z9 := Tryz.sizeOf9
 v9 := Tryz.zeroValue9
 i9 := by kernel_rfl
 t21 := Tryz.underlying21
 a21 := Tryz.isAgg21
 z21 := Tryz.sizeOf21
 v21 := Tryz.zeroValue21
 i21 := by kernel_rfl
 t23 := Tryz.underlying123
 a23 := Tryz.isAgg123
 z23 := Tryz.sizeOf123
 v23 := Tryz.zeroValue123
 i23 := by kernel_rfl }
open Go.RowKit Go.Lib in
theorem Tryz.strings_IndexFunc (g : Nat) (lb : Array Value) (eg : ∀ args w, (callFunc g args).run Tryz.prog w = .ok (.enter g args) w) (p : Nat → Bool) (s : ByteArray) (w : World) (hp : PredAt Tryz.prog g lb encR p w) :
  Calls Tryz.prog 118 #[.string s, .func (.func g) #[] lb] w fun e w' => e = .returned (.int .i64 (Lib.idxFunc p true s)) ∧ Below w.heap.size w w' := Any.strings_IndexFunc Tryz.laysGw15 g lb eg p s w hp
def Tryz.laysGw17_ren : Go.Shelf.Ren := ⟨fun | 17 => 137 | 15 => 118 | 20 => 133 | n => n, fun | 9 => 9 | 23 => 123 | 4 => 4 | 3 => 3 | 0 => 0 | 21 => 21 | n => n, fun | n => n⟩
theorem Tryz.laysGw17 : Go.Proofs.LaysGw.n17 Tryz.prog Tryz.laysGw17_ren := {
 mixed := by kernel_rfl
 f15 := Tryz.func118.trans (congrArg some (by kernel_rfl))
 f17 := Tryz.func137.trans (congrArg some (by kernel_rfl))
 f20 := Tryz.func133.trans (congrArg some (by kernel_rfl))
 t0 := Tryz.underlying0
 a0 := Tryz.isAgg0
 z0 := Tryz.sizeOf0
 v0 := Tryz.zeroValue0
 i0 := by kernel_rfl
 t3 := Tryz.underlying3
 a3 := Tryz.isAgg3
 z3 := Tryz.sizeOf3
 v3 := Tryz.zeroValue3
 i3 := by kernel_rfl
 t4 := Tryz.underlying4
 a4 := Tryz.isAgg4
 z4 := Tryz.sizeOf4
 v4 := Tryz.zeroValue4
 i4 := by kernel_rfl
 t9 := Tryz.underlying9
 a9 := Tryz.isAgg9
 z9 := Tryz.sizeOf9
 v9 := Tryz.zeroValue9
 i9 := by kernel_rfl
 t21 := Tryz.underlying21
 a21 := Tryz.isAgg21
 z21 := Tryz.sizeOf21
 v21 := Tryz.zeroValue21
 i21 := by kernel_rfl
 t23 := Tryz.underlying123
 a23 := Tryz.isAgg123
 z23 := Tryz.sizeOf123
 v23 := Tryz.zeroValue123
 i23 := by kernel_rfl }
open Go.RowKit Go.Lib in
theorem Tryz.strings_ContainsFunc (g : Nat) (lb : Array Value) (eg : ∀ args w, (callFunc g args).run Tryz.prog w = .ok (.enter g args) w) (p : Nat → Bool) (s : ByteArray) (w : World) (hp : PredAt Tryz.prog g lb encR p w) :
  Calls Tryz.prog 137 #[.string s, .func (.func g) #[] lb] w fun e w' => e = .returned (.bool (decide (0 ≤ Lib.idxFunc p true s))) ∧ Below w.heap.size w w' := Any.strings_ContainsFunc Tryz.laysGw17 g lb eg p s w hp
def Tryz.lays110_ren : Go.Shelf.Ren := ⟨fun | 110 => 53 | 109 => 82 | n => n, fun | 31 => 34 | 9 => 9 | 4 => 4 | 3 => 3 | 0 => 0 | n => n, fun | n => n⟩
theorem Tryz.lays110 : Go.Proofs.Lays.n110 Tryz.prog Tryz.lays110_ren := {
 mixed := by kernel_rfl
 f109 := Tryz.func82.trans (congrArg some (by kernel_rfl))
 f110 := Tryz.func53.trans (congrArg some (by kernel_rfl))
 t0 := Tryz.underlying0
 a0 := Tryz.isAgg0
 z0 := Tryz.sizeOf0
 v0 := Tryz.zeroValue0
 t3 := Tryz.underlying3
 a3 := Tryz.isAgg3
 z3 := Tryz.sizeOf3
 v3 := Tryz.zeroValue3
 t4 := Tryz.underlying4
 a4 := Tryz.isAgg4
 z4 := Tryz.sizeOf4
 v4 := Tryz.zeroValue4
 t9 := Tryz.underlying9
 a9 := Tryz.isAgg9
 z9 := Tryz.sizeOf9
 v9 := Tryz.zeroValue9
 t31 := Tryz.underlying34
 a31 := Tryz.isAgg34
 z31 := Tryz.sizeOf34
 v31 := Tryz.zeroValue34 }
open Go.Lib in
theorem Tryz.slices_Contains_string (b off n c : Nat) (zs : List ByteArray) (x : ByteArray) (w : World) (hz : n ≤ zs.length) (hbig : n ≤ 9223372036854775807) (hc : ∀ j, j < zs.length → w.cell? ⟨b, off + j, none⟩ = some (.string (zs.getD j ByteArray.empty))) :
  Calls Tryz.prog 53 #[.slice (some ⟨b, off, none⟩) n c, .string x] w fun e w' => e = .returned (.bool (Lib.containsS (zs.take n) x)) ∧ w' = w := Any.slices_Contains_string Tryz.lays110 b off n c zs x w hz hbig hc
def Tryz.laysTL_ren : Go.Shelf.Ren := ⟨fun | 161 => 84 | 231 => 114 | 227 => 115 | 233 => 116 | 235 => 117 | 228 => 130 | 197 => 131 | 151 => 132 | 260 => 143 | 152 => 144 | 137 => 147 | 119 => 148 | 224 => 149 | 225 => 150 | 217 => 156 | 266 => 161 | n => n, fun | 9 => 9 | 4 => 4 | 3 => 3 | 5 => 5 | 117 => 117 | 116 => 116 | 0 => 0 | 124 => 120 | 105 => 128 | 21 => 21 | 119 => 140 | 46 => 141 | 139 => 144 | 138 => 143 | n => n, fun | 3 => 0 | 4 => 1 | n => n⟩
theorem Tryz.laysTL : Go.Proofs.Lays.n161 Tryz.prog Tryz.laysTL_ren := {
 mixed := by kernel_rfl
 f119 := Tryz.func148.trans (congrArg some (by kernel_rfl))
 f137 := Tryz.func147.trans (congrArg some (by kernel_rfl))
 f151 := Tryz.func132.trans (congrArg some (by kernel_rfl))
 f152 := Tryz.func144.trans (congrArg some (by kernel_rfl))
 f161 := Tryz.func84.trans (congrArg some (by kernel_rfl))
 f197 := Tryz.func131.trans (congrArg some (by kernel_rfl))
 f217 := Tryz.func156.trans (congrArg some (by kernel_rfl))
 f224 := Tryz.func149.trans (congrArg some (by kernel_rfl))
 f225 := Tryz.func150.trans (congrArg some (by kernel_rfl))
 f227 := Tryz.func115.trans (congrArg some (by kernel_rfl))
 f228 := Tryz.func130.trans (congrArg some (by kernel_rfl))
 f231 := Tryz.func114.trans (congrArg some (by kernel_rfl))
 f233 := Tryz.func116.trans (congrArg some (by kernel_rfl))
 f235 := Tryz.func117.trans (congrArg some (by kernel_rfl))
 f260 := Tryz.func143.trans (congrArg some (by kernel_rfl))
 f266 := Tryz.func161.trans (congrArg some (by kernel_rfl))
 t0 := Tryz.underlying0
 a0 := Tryz.isAgg0
 z0 := Tryz.sizeOf0
 v0 := Tryz.zeroValue0
 t3 := Tryz.underlying3
 a3 := Tryz.isAgg3
 z3 := Tryz.sizeOf3
 v3 := Tryz.zeroValue3
 t4 := Tryz.underlying4
 a4 := Tryz.isAgg4
 z4 := Tryz.sizeOf4
 v4 := Tryz.zeroValue4
 t5 := Tryz.underlying5
 a5 := Tryz.isAgg5
 z5 := Tryz.sizeOf5
 v5 := Tryz.zeroValue5
 t9 := Tryz.underlying9
 a9 := Tryz.isAgg9
 z9 := Tryz.sizeOf9
 v9 := Tryz.zeroValue9
 t21 := Tryz.underlying21
 a21 := Tryz.isAgg21
 z21 := Tryz.sizeOf21
 v21 := Tryz.zeroValue21
 t46 := Tryz.underlying141
 a46 := Tryz.isAgg141
 z46 := Tryz.sizeOf141
 v46 := Tryz.zeroValue141
 t105 := Tryz.underlying128
 a105 := Tryz.isAgg128
 z105 := Tryz.sizeOf128
 v105 := Tryz.zeroValue128
 t116 := Tryz.underlying116
 a116 := Tryz.isAgg116
 z116 := Tryz.sizeOf116
 t117 := Tryz.underlying117
 a117 := Tryz.isAgg117
 z117 := Tryz.sizeOf117
 v117 := Tryz.zeroValue117
 t119 := Tryz.underlying140
 a119 := Tryz.isAgg140
 z119 := Tryz.sizeOf140
 t124 := Tryz.underlying120
 a124 := Tryz.isAgg120
 z124 := Tryz.sizeOf120
 v124 := Tryz.zeroValue120
 t138 := Tryz.underlying143
 a138 := Tryz.isAgg143
 z138 := Tryz.sizeOf143
 v138 := Tryz.zeroValue143
 t139 := Tryz.underlying144
 a139 := Tryz.isAgg144
 z139 := Tryz.sizeOf144
 v139 := Tryz.zeroValue144
 g3 := by kernel_rfl
 g4 := by kernel_rfl }
open Go.RowKit in
theorem Tryz.TrimLeft_set (s cutset : ByteArray) (w : World) (hcs : cutset.size < 4294967281) (hascii : ∀ (j : Nat) b, cutset.data.toList[j]? = some b → b.toNat < 128) :
  Calls Tryz.prog 84 #[.string s, .string cutset] w fun e w' => e = .returned (.string ⟨(Lib.trimLeftS s.data.toList cutset.data.toList).toArray⟩) ∧ Below w.heap.size w w' := Any.strings_TrimLeft_laid Tryz.laysTL (by kernel_rfl) s cutset w hcs hascii
end Go.Proofs

/- The walks of package lex: what each of its functions comes to, in the words of HLex. -/
namespace Go.Proofs.YtnjmilelifmfpaaGreatDoor.HLexC
open Go Go.RowKit Go.Lib Go.Proofs Go.Proofs.YtnjmilelifmfpaaGreatDoorW.PrintWords Go.Proofs.YtnjmilelifmfpaaGreatDoorW.PrintLast Go.Proofs.YtnjmilelifmfpaaGreatDoorW.PrintMore
set_option linter.unusedVariables false
set_option linter.unusedSimpArgs false

theorem bcell {W w1 : World} (hb : Below W.heap.size W w1) : (∀ b o, b < W.heap.size → w1.cell? ⟨b, o, none⟩ = W.cell? ⟨b, o, none⟩) ∧ (∀ b o, b < W.heap.size → w1.frozen? ⟨b, o, none⟩ = W.frozen? ⟨b, o, none⟩) :=
 ⟨fun b o h => hb.cell (p := ⟨b, o, none⟩) h, fun b o h => hb.frozen (p := ⟨b, o, none⟩) h⟩

set_option maxHeartbeats 1000000 in
theorem lower_any (c : Int) (w : World) (h0 : 0 ≤ c) (h1 : c ≤ 255) : Calls Tryz.prog 134 #[.int .u8 c] w fun e w' => e = .returned (.bool (decide (97 ≤ c) && decide (c ≤ 122))) ∧ w = w' := by
 by_cases h : 97 ≤ c <;> by_cases h' : c ≤ 122
 all_goals
  go_enter Tryz.func134, Tryz.ntmps134
  go_wp2
  go_ret
  exact ⟨by simp [h, h'], rfl⟩
set_option maxHeartbeats 1000000 in
theorem upper_any (c : Int) (w : World) (h0 : 0 ≤ c) (h1 : c ≤ 255) : Calls Tryz.prog 135 #[.int .u8 c] w fun e w' => e = .returned (.bool (decide (65 ≤ c) && decide (c ≤ 90))) ∧ w = w' := by
 by_cases h : 65 ≤ c <;> by_cases h' : c ≤ 90
 all_goals
  go_enter Tryz.func135, Tryz.ntmps135
  go_wp2
  go_ret
  exact ⟨by simp [h, h'], rfl⟩
set_option maxHeartbeats 1000000 in
theorem digit_any (c : Int) (w : World) (h0 : 0 ≤ c) (h1 : c ≤ 255) : Calls Tryz.prog 136 #[.int .u8 c] w fun e w' => e = .returned (.bool (decide (48 ≤ c) && decide (c ≤ 57))) ∧ w = w' := by
 by_cases h : 48 ≤ c <;> by_cases h' : c ≤ 57
 all_goals
  go_enter Tryz.func136, Tryz.ntmps136
  go_wp2
  go_ret
  exact ⟨by simp [h, h'], rfl⟩

def wordlyI (c : Int) : Bool := decide (97 ≤ c) && decide (c ≤ 122) || (decide (65 ≤ c) && decide (c ≤ 90)) || (decide (48 ≤ c) && decide (c ≤ 57))
set_option maxHeartbeats 2000000 in
theorem wordly_any (c : Int) (w : World) (h0 : 0 ≤ c) (h1 : c ≤ 255) : Calls Tryz.prog 120 #[.int .u8 c] w fun e w' => e = .returned (.bool (wordlyI c)) ∧ w = w' := by
 unfold wordlyI
 cases hl : (decide (97 ≤ c) && decide (c ≤ 122)) <;> cases hu : (decide (65 ≤ c) && decide (c ≤ 90)) <;> cases hd : (decide (48 ≤ c) && decide (c ≤ 57))
 all_goals
  have HL := Lib.hid hl; have HU := Lib.hid hu; have HD := Lib.hid hd
  clear hl hu hd
  go_enter Tryz.func120, Tryz.ntmps120
  go_wp2_with (first|(go_at_call 134; refine (lower_any _ _ h0 h1).mono ?_; rintro e w' ⟨rfl, rfl⟩; rw [HL.out]) | (go_at_call 135; refine (upper_any _ _ h0 h1).mono ?_; rintro e w' ⟨rfl, rfl⟩; rw [HU.out]) | (go_at_call 136; refine (digit_any _ _ h0 h1).mono ?_; rintro e w' ⟨rfl, rfl⟩; rw [HD.out]))
  go_ret
  exact ⟨by simp, rfl⟩

set_option maxHeartbeats 1000000 in
theorem pRun_pays (w : World) : PredAt Tryz.prog 119 #[] encR HLex.pRun w := fun W r _ => by
 unfold FnGives
 by_cases h0 : 127 < r
 ·go_enter Tryz.func119, Tryz.ntmps119
  have z0 : decide ((127 : Int) < (r : Int)) = true := decide_eq_true (by omega)
  go_wp2
  go_ret
  exact ⟨by simp [HLex.pRun, h0], 0, rfl⟩
 ·have z0 : decide ((127 : Int) < (r : Int)) = false := decide_eq_false (by omega)
  have z1 : (0 : Int) ≤ (r : Int) := by omega
  have z2 : (r : Int) ≤ 255 := by omega
  cases hw : wordlyI (r : Int)
  all_goals
   have HW := Lib.hid hw
   clear hw
   go_enter Tryz.func119, Tryz.ntmps119
   go_wp2_with (go_at_call 120; refine (wordly_any _ _ z1 z2).mono ?_; rintro e w' ⟨rfl, rfl⟩; rw [HW.out])
   go_ret
   refine ⟨?_, 0, rfl⟩
   have := HW.out
   unfold wordlyI at this
   congr 2
   unfold HLex.pRun
   have e0 : decide (127 < r) = false := by simp; omega
   rw [e0, Bool.false_or]
   have c1 : ∀ a : Nat, decide ((a : Int) ≤ (r : Int)) = decide (a ≤ r) := fun a => by simp
   have c2 : ∀ a : Nat, decide ((r : Int) ≤ (a : Int)) = decide (r ≤ a) := fun a => by simp
   rw [show (97 : Int) = ((97 : Nat) : Int) from rfl, show (122 : Int) = ((122 : Nat) : Int) from rfl, show (65 : Int) = ((65 : Nat) : Int) from rfl, show (90 : Int) = ((90 : Nat) : Int) from rfl, show (48 : Int) = ((48 : Nat) : Int) from rfl, show (57 : Int) = ((57 : Nat) : Int) from rfl] at this
   simp only [c1, c2] at this
   rw [this]
   rfl

set_option maxHeartbeats 1000000 in
theorem pBig_pays (w : World) : PredAt Tryz.prog 138 #[] encR HLex.pBig w := fun W r _ => by
 unfold FnGives
 go_enter Tryz.func138, Tryz.ntmps138
 go_wp2
 go_ret
 exact ⟨by simp [HLex.pBig]; omega, 0, rfl⟩

theorem enters_first1 : ∀ args w, (callFunc 119 args).run Tryz.prog w = .ok (.enter 119 args) w := enters_of Tryz.func119 (by kernel_rfl) rfl
theorem enters_named1 : ∀ args w, (callFunc 138 args).run Tryz.prog w = .ok (.enter 138 args) w := enters_of Tryz.func138 (by kernel_rfl) rfl

theorem indexRun_any (s : ByteArray) (w : World) :
  Calls Tryz.prog 118 #[.string s, .func (.func 119) #[] #[]] w fun e w' => e = .returned (.int .i64 (Lib.idxFunc HLex.pRun true s)) ∧ Below w.heap.size w w' :=
 Tryz.strings_IndexFunc 119 #[] enters_first1 HLex.pRun s w (pRun_pays w)
theorem containsBig_any (s : ByteArray) (w : World) :
  Calls Tryz.prog 137 #[.string s, .func (.func 138) #[] #[]] w fun e w' => e = .returned (.bool (s.data.toList.any (fun c => decide (57 < c.toNat)))) ∧ Below w.heap.size w w' := by
 have h := Tryz.strings_ContainsFunc 138 #[] enters_named1 HLex.pBig s w (pBig_pays w)
 rw [HLex.idx_big] at h
 exact h

def wordsB : List ByteArray := [⟨#[108, 101, 116]⟩, ⟨#[108, 101, 116, 114, 101, 99]⟩, ⟨#[105, 110]⟩, ⟨#[99, 97, 115, 101]⟩, ⟨#[111, 102]⟩]
theorem bytes_eq_iff (a b : ByteArray) : a = b ↔ a.data.toList = b.data.toList := ⟨fun h => by rw [h], fun h => by
 cases a; cases b; congr 1; exact Array.toList_inj.1 h⟩
theorem containsWords (s : ByteArray) : Lib.containsS (wordsB.take 5) s = HLex.isWord s.data.toList := by
 rw [Bool.eq_iff_iff, Lib.containsS_iff]
 unfold HLex.isWord HLex.words wordsB
 simp [bytes_eq_iff]
theorem wordCells (w : World) : ∀ j, j < wordsB.length → (w.alloc (Obj.cells #[Value.string { data := #[108, 101, 116] }, Value.string { data := #[108, 101, 116, 114, 101, 99] }, Value.string { data := #[105, 110] }, Value.string { data := #[99, 97, 115, 101] }, Value.string { data := #[111, 102] }] 9)).cell? ⟨w.heap.size, 0 + j, none⟩ = some (.string (wordsB.getD j ByteArray.empty)) := by
 intro j hj
 have hj' : j < 5 := hj
 match j, hj' with
 | 0, _ => simp [go_sem, wordsB]
 | 1, _ => simp [go_sem, wordsB]
 | 2, _ => simp [go_sem, wordsB]
 | 3, _ => simp [go_sem, wordsB]
 | 4, _ => simp [go_sem, wordsB]
set_option maxHeartbeats 1000000 in
theorem word_any (s : ByteArray) (w : World) :
  Calls Tryz.prog 140 #[.string s] w fun e w' => e = .returned (.bool (HLex.isWord s.data.toList)) ∧ Below w.heap.size w w' := by
 have hC := fun (W : World) (hc : ∀ j, j < wordsB.length → W.cell? ⟨w.heap.size, 0 + j, none⟩ = some (.string (wordsB.getD j ByteArray.empty))) =>
  Tryz.slices_Contains_string w.heap.size 0 5 5 wordsB s W (by decide) (by decide) hc
 rw [containsWords] at hC
 go_enter Tryz.func140, Tryz.ntmps140
 go_wp2_with (go_at_call 53; refine (hC _ (wordCells w)).mono ?_; rintro e w' ⟨rfl, rfl⟩)
 go_ret
 exact ⟨rfl, (Below.refl _ _).alloc (Nat.le_refl _) _⟩

theorem bytes_below (w : World) (e : TypeId) (s : ByteArray) : Below w.heap.size w (Lib.bytesWorld w e s) := by
 unfold Lib.bytesWorld
 exact Lib.below_freeze (((Below.refl _ w).drew).alloc (Nat.le_refl _) _) (Nat.le_refl _) _
theorem atoi_any (s : ByteArray) (n : Int) (w : World) (hl : s.size ≤ 18) (h : Lib.atoi s.data.toList = some n) :
  Calls Tryz.prog 139 #[.string s] w fun e w' => e = .returned (.tuple #[.int .i64 n, .nilIface]) ∧ Below w.heap.size w w' :=
 (Tryz.strconv_Atoi s n hl h w).mono fun e w' ⟨he, t, hw⟩ => ⟨he, by rw [hw]; exact bytes_below _ _ _⟩

def NamedPost (s : ByteArray) (w : World) (e : Ending) (w' : World) : Prop :=
 (match HLex.named s.data.toList with
  | .ok (k, n) => e = .returned (.agg #[.int .i64 (k : Int), .string s, .int .i64 (n : Int), .int .i64 0])
  | .error er => e = .panicked [{ v := .iface 90 (.agg #[.int .i64 (er : Int)]), recovered := false }]) ∧ Below w.heap.size w w'

theorem head_get (s : ByteArray) (hn : 0 < s.size) : s.data.toList.head? = some s[0] := by
 have := HLex.drop_cons_get s 0 hn
 rw [List.drop_zero] at this
 rw [this]; rfl
set_option maxHeartbeats 2000000 in
theorem named_any (s : ByteArray) (w : World) (hn : 0 < s.size) (hmax : s.size ≤ 9223372036854775807) (hw : ∀ c ∈ s.data.toList, HLex.wordly c = true) :
  Calls Tryz.prog 121 #[.string s] w (NamedPost s w) := by
 have hh := head_get s hn
 have hsz : s.data.toList.length = s.size := Array.length_toList
 have hc0 : (0 : Int) ≤ ((s[0]).toNat : Int) := by omega
 have hc1 : ((s[0]).toNat : Int) ≤ 255 := by have := (s[0]).toNat_lt; omega
 have hdg : (decide ((48 : Int) ≤ ((s[0]).toNat : Int)) && decide (((s[0]).toNat : Int) ≤ 57)) = HLex.digit s[0] := by
  unfold HLex.digit; rw [Bool.eq_iff_iff]; simp; omega
 have hup : (decide ((65 : Int) ≤ ((s[0]).toNat : Int)) && decide (((s[0]).toNat : Int) ≤ 90)) = HLex.upper s[0] := by
  unfold HLex.upper; rw [Bool.eq_iff_iff]; simp; omega
 cases hd : HLex.digit s[0]
 ·have HD := Lib.hid hd
  have HDG := Lib.hid hdg
  have HUP := Lib.hid hup
  clear hdg hup
  by_cases hlen : 16 < s.size
  ·have hfin : HLex.named s.data.toList = .error 11 := by
    unfold HLex.named; rw [hh]; simp [hd, hsz, hlen]
   have HF := Lib.hid hfin; clear hfin hd hh hsz hw
   go_enter Tryz.func121, Tryz.ntmps121
   go_wp2_with (first|(go_at_call 136; refine (digit_any _ _ hc0 hc1).mono ?_; rintro e w' ⟨rfl, rfl⟩; rw [HDG.out, HD.out]))
   refine (show _ ∧ _ from ⟨rfl, ?_⟩)
   unfold NamedPost
   rw [HF.out]
   exact ⟨rfl, ((Below.refl _ _).alloc (Nat.le_refl _) _).alloc (by simp) _⟩
  ·have hk : ∃ k : Nat, HLex.named s.data.toList = .ok (k, 0) ∧ k = (if HLex.isWord s.data.toList then 4 else if HLex.upper s[0] then 2 else 1) := by
    unfold HLex.named; rw [hh]; simp only [Option.map_some, Option.getD_some, hd, hsz, hlen, Bool.false_eq_true, if_false]
    by_cases ha : HLex.isWord s.data.toList = true <;> by_cases hb' : HLex.upper s[0] = true <;> simp only [ha, hb', if_true, Bool.false_eq_true, if_false] <;> exact ⟨_, rfl, rfl⟩
   have HK := Lib.hid hk
   clear hk hd hh hsz hw
   cases hwd : HLex.isWord s.data.toList
   ·cases hu : HLex.upper s[0]
    all_goals
     have HW := Lib.hid hwd
     have HU := Lib.hid hu
     clear hwd hu
     go_enter Tryz.func121, Tryz.ntmps121
     go_wp2_with (first|(go_at_call 136; refine (digit_any _ _ hc0 hc1).mono ?_; rintro e w' ⟨rfl, rfl⟩; rw [HDG.out, HD.out]) | (go_at_call 135; refine (upper_any _ _ hc0 hc1).mono ?_; rintro e w' ⟨rfl, rfl⟩; rw [HUP.out, HU.out]) | (go_at_call 140; refine (word_any s _).mono ?_; rintro e w' ⟨rfl, hbl⟩; rw [HW.out]; have hz := hbl.size; simp only [World.size_alloc] at hz; have hb0 := Lib.hid (blk_below (blk_alloc (blk_new w _) _) hbl); obtain ⟨hc, hf⟩ := bcell hbl; simp only [World.size_alloc] at hc hf))
     obtain ⟨kk, hk1, hk2⟩ := HK.out
     rw [HW.out, HU.out] at hk2
     simp only [Bool.false_eq_true, if_false, if_true] at hk2
     refine bodyPost_ret (v := .agg #[.int .i64 (kk : Int), .string s, .int .i64 0, .int .i64 0]) (results_cell_row rfl _ _ w.heap.size 63 #[.int .i64 (kk : Int), .string s, .int .i64 0, .int .i64 0] (0, 0) _ rfl (by rw [hk2]; exact blk_put (blk_put (blk_put (blk_put (blk_far hb0.out (by simp) _) 0 _ rfl) 1 _ rfl) 2 _ rfl) 3 _ rfl) Tryz.underlying63 rfl (by kernel_rfl)) rfl ?_
     unfold NamedPost
     rw [hk1]
     exact ⟨rfl, ((((((((Below.refl _ _).alloc (Nat.le_refl _) _).alloc (by simp) _).trans (hbl.mono (by simp; omega))).setCell (by simp) _).setCell (by simp) _).setCell (by simp) _).setCell (by simp) _).setCell (by simp) _⟩
   ·have HW := Lib.hid hwd
    clear hwd
    go_enter Tryz.func121, Tryz.ntmps121
    go_wp2_with (first|(go_at_call 136; refine (digit_any _ _ hc0 hc1).mono ?_; rintro e w' ⟨rfl, rfl⟩; rw [HDG.out, HD.out]) | (go_at_call 140; refine (word_any s _).mono ?_; rintro e w' ⟨rfl, hbl⟩; rw [HW.out]; have hz := hbl.size; simp only [World.size_alloc] at hz; have hb0 := Lib.hid (blk_below (blk_alloc (blk_new w _) _) hbl); obtain ⟨hc, hf⟩ := bcell hbl; simp only [World.size_alloc] at hc hf))
    obtain ⟨kk, hk1, hk2⟩ := HK.out
    rw [HW.out] at hk2
    simp only [if_true] at hk2
    refine bodyPost_ret (v := .agg #[.int .i64 (kk : Int), .string s, .int .i64 0, .int .i64 0]) (results_cell_row rfl _ _ w.heap.size 63 #[.int .i64 (kk : Int), .string s, .int .i64 0, .int .i64 0] (0, 0) _ rfl (by rw [hk2]; exact blk_put (blk_put (blk_put (blk_put (blk_far hb0.out (by simp) _) 0 _ rfl) 1 _ rfl) 2 _ rfl) 3 _ rfl) Tryz.underlying63 rfl (by kernel_rfl)) rfl ?_
    unfold NamedPost
    rw [hk1]
    exact ⟨rfl, ((((((((Below.refl _ _).alloc (Nat.le_refl _) _).alloc (by simp) _).trans (hbl.mono (by simp; omega))).setCell (by simp) _).setCell (by simp) _).setCell (by simp) _).setCell (by simp) _).setCell (by simp) _⟩
 ·cases hb : s.data.toList.any (fun c => decide (57 < c.toNat))
  ·have hall : ∀ c ∈ s.data.toList, HLex.digit c = true := by
    intro c hc
    have h1 := hw c hc
    have h2 := List.any_eq_false.1 hb c hc
    simp at h2
    unfold HLex.wordly HLex.lower HLex.upper HLex.digit at h1
    unfold HLex.digit
    simp at h1 ⊢
    omega
   have hat := HLex.atoi_num s.data.toList (by intro h0; rw [h0] at hsz; simp at hsz; omega) hall
   have hfin : HLex.named s.data.toList = (if 18 < s.size ∨ 1 < s.size ∧ (s[0]).toNat = 48 then .error 11 else .ok (3, HLex.num s.data.toList)) := by
    unfold HLex.named; rw [hh]; simp only [Option.map_some, Option.getD_some, hd, hb, hsz, if_true, Bool.false_eq_true, if_false, Option.some.injEq]
    have : (s[0] = 48) ↔ (s[0]).toNat = 48 := ⟨fun h => by rw [h]; rfl, fun h => UInt8.toNat_inj.1 (by rw [h]; rfl)⟩
    simp only [this]
   have HF := Lib.hid hfin; clear hfin
   have HD := Lib.hid hd; clear hd
   have HB := Lib.hid hb; clear hb
   have HDG := Lib.hid hdg; clear hdg
   have HAT := Lib.hid hat
   clear hh hsz hw hup hall hat
   by_cases h18 : 18 < s.size
   ·go_enter Tryz.func121, Tryz.ntmps121
    go_wp2_with (first|(go_at_call 136; refine (digit_any _ _ hc0 hc1).mono ?_; rintro e w' ⟨rfl, rfl⟩; rw [HDG.out, HD.out]) | (go_at_call 137; refine (containsBig_any s _).mono ?_; rintro e w' ⟨rfl, hbl⟩; rw [HB.out]))
    refine (show _ ∧ _ from ⟨rfl, ?_⟩)
    unfold NamedPost
    rw [HF.out, if_pos (.inl h18)]
    exact ⟨rfl, (((Below.refl _ _).alloc (Nat.le_refl _) _).alloc (by simp) _).trans (hbl.mono (by simp; omega))⟩
   ·by_cases h1 : 1 < s.size
    ·by_cases h48 : (s[0]).toNat = 48
     ·have hz48 : (((s[0]).toNat : Int) == 48) = true := by simp [h48]
      have H48 := Lib.hid h48; clear h48
      go_enter Tryz.func121, Tryz.ntmps121
      go_wp2_with (first|(go_at_call 136; refine (digit_any _ _ hc0 hc1).mono ?_; rintro e w' ⟨rfl, rfl⟩; rw [HDG.out, HD.out]) | (go_at_call 137; refine (containsBig_any s _).mono ?_; rintro e w' ⟨rfl, hbl⟩; rw [HB.out]))
      refine (show _ ∧ _ from ⟨rfl, ?_⟩)
      unfold NamedPost
      rw [HF.out, if_pos (.inr ⟨h1, H48.out⟩)]
      exact ⟨rfl, (((Below.refl _ _).alloc (Nat.le_refl _) _).alloc (by simp) _).trans (hbl.mono (by simp; omega))⟩
     ·have hz48 : (((s[0]).toNat : Int) == 48) = false := by simp; omega
      go_enter Tryz.func121, Tryz.ntmps121
      go_wp2_with (first|(go_at_call 136; refine (digit_any _ _ hc0 hc1).mono ?_; rintro e w' ⟨rfl, rfl⟩; rw [HDG.out, HD.out]) | (go_at_call 137; refine (containsBig_any s _).mono ?_; rintro e w' ⟨rfl, hbl⟩; rw [HB.out]; have hz := hbl.size; simp only [World.size_alloc] at hz; have hb0 := Lib.hid (blk_below (blk_alloc (blk_new w _) _) hbl); obtain ⟨hc, hf⟩ := bcell hbl; simp only [World.size_alloc] at hc hf))
      have hb1 := blk_below (blk_new ((w.alloc _)) _) hbl
      simp only [World.size_alloc] at hb1
      replace hb1 := Lib.hid hb1
      have HA := Lib.hid (atoi_any s (HLex.num s.data.toList : Int) (w'.setCell ⟨w.heap.size + 1, 0, none⟩ (.int .i64 3)) (by omega) HAT.out)
      refine HA.out.mono ?_
      rintro e w2 ⟨rfl, hb2⟩
      have hB1 := blk_below (blk_put hb1.out 0 (.int .i64 3) rfl) hb2
      have hB0 := blk_below (blk_far (p := ⟨w.heap.size + 1, 0, none⟩) hb0.out (by simp) (.int .i64 3)) hb2
      have c10 := blk_cell hB1 0; have c11 := blk_cell hB1 1; have c12 := blk_cell hB1 2; have c13 := blk_cell hB1 3
      have c00 := blk_cell hB0 0; have c01 := blk_cell hB0 1; have c02 := blk_cell hB0 2; have c03 := blk_cell hB0 3
      have z1 := fun i => blk_frozen hB1 i
      have z0 := fun i => blk_frozen hB0 i
      have HB0 := Lib.hid hB0; have HB1 := Lib.hid hB1; clear hB0 hB1 hc hf HA
      simp at c10 c11 c12 c13 c00 c01 c02 c03
      go_wp2_with fail
      refine bodyPost_ret (v := .agg #[.int .i64 3, .string s, .int .i64 (HLex.num s.data.toList : Int), .int .i64 0]) (results_cell_row rfl _ _ w.heap.size 63 #[.int .i64 3, .string s, .int .i64 (HLex.num s.data.toList : Int), .int .i64 0] (0, 0) _ rfl (blk_put (blk_put (blk_put (blk_put (blk_far HB0.out (by simp) _) 0 _ rfl) 1 _ rfl) 2 _ rfl) 3 _ rfl) Tryz.underlying63 rfl (by kernel_rfl)) rfl ?_
      unfold NamedPost
      rw [HF.out, if_neg (by omega)]
      exact ⟨rfl, below_set (below_set (below_set (below_set (below_set (below_step (below_set (below_step (below_alloc (below_alloc (Below.refl _ w) _) _) hbl) (by omega)) hb2) (by omega)) (by omega)) (by omega)) (by omega)) (by omega)⟩
    ·go_enter Tryz.func121, Tryz.ntmps121
     go_wp2_with (first|(go_at_call 136; refine (digit_any _ _ hc0 hc1).mono ?_; rintro e w' ⟨rfl, rfl⟩; rw [HDG.out, HD.out]) | (go_at_call 137; refine (containsBig_any s _).mono ?_; rintro e w' ⟨rfl, hbl⟩; rw [HB.out]; have hz := hbl.size; simp only [World.size_alloc] at hz; have hb0 := Lib.hid (blk_below (blk_alloc (blk_new w _) _) hbl); obtain ⟨hc, hf⟩ := bcell hbl; simp only [World.size_alloc] at hc hf))
     have hb1 := blk_below (blk_new ((w.alloc _)) _) hbl
     simp only [World.size_alloc] at hb1
     replace hb1 := Lib.hid hb1
     have HA := Lib.hid (atoi_any s (HLex.num s.data.toList : Int) (w'.setCell ⟨w.heap.size + 1, 0, none⟩ (.int .i64 3)) (by omega) HAT.out)
     refine HA.out.mono ?_
     rintro e w2 ⟨rfl, hb2⟩
     have hB1 := blk_below (blk_put hb1.out 0 (.int .i64 3) rfl) hb2
     have hB0 := blk_below (blk_far (p := ⟨w.heap.size + 1, 0, none⟩) hb0.out (by simp) (.int .i64 3)) hb2
     have c10 := blk_cell hB1 0; have c11 := blk_cell hB1 1; have c12 := blk_cell hB1 2; have c13 := blk_cell hB1 3
     have c00 := blk_cell hB0 0; have c01 := blk_cell hB0 1; have c02 := blk_cell hB0 2; have c03 := blk_cell hB0 3
     have z1 := fun i => blk_frozen hB1 i
     have z0 := fun i => blk_frozen hB0 i
     have HB0 := Lib.hid hB0; have HB1 := Lib.hid hB1; clear hB0 hB1 hc hf HA
     simp at c10 c11 c12 c13 c00 c01 c02 c03
     go_wp2_with fail
     refine bodyPost_ret (v := .agg #[.int .i64 3, .string s, .int .i64 (HLex.num s.data.toList : Int), .int .i64 0]) (results_cell_row rfl _ _ w.heap.size 63 #[.int .i64 3, .string s, .int .i64 (HLex.num s.data.toList : Int), .int .i64 0] (0, 0) _ rfl (blk_put (blk_put (blk_put (blk_put (blk_far HB0.out (by simp) _) 0 _ rfl) 1 _ rfl) 2 _ rfl) 3 _ rfl) Tryz.underlying63 rfl (by kernel_rfl)) rfl ?_
     unfold NamedPost
     rw [HF.out, if_neg (by omega)]
     exact ⟨rfl, below_set (below_set (below_set (below_set (below_set (below_step (below_set (below_step (below_alloc (below_alloc (Below.refl _ w) _) _) hbl) (by omega)) hb2) (by omega)) (by omega)) (by omega)) (by omega)) (by omega)⟩
  ·have hfin : HLex.named s.data.toList = .error 10 := by
    unfold HLex.named; rw [hh]; simp [hd, hb]
   have HF := Lib.hid hfin; clear hfin
   have HD := Lib.hid hd; clear hd
   have HB := Lib.hid hb; clear hb
   have HDG := Lib.hid hdg; clear hdg
   clear hh hsz hw hup
   go_enter Tryz.func121, Tryz.ntmps121
   go_wp2_with (first|(go_at_call 136; refine (digit_any _ _ hc0 hc1).mono ?_; rintro e w' ⟨rfl, rfl⟩; rw [HDG.out, HD.out]) | (go_at_call 137; refine (containsBig_any s _).mono ?_; rintro e w' ⟨rfl, hbl⟩; rw [HB.out]))
   refine (show _ ∧ _ from ⟨rfl, ?_⟩)
   unfold NamedPost
   rw [HF.out]
   exact ⟨rfl, (((Below.refl _ _).alloc (Nat.le_refl _) _).alloc (by simp) _).trans (hbl.mono (by simp; omega))⟩

end Go.Proofs.YtnjmilelifmfpaaGreatDoor.HLexC
