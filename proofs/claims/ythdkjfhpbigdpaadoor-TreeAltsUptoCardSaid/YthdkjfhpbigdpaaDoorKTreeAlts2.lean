-- Written for this claim: several texts in one.
import Derived.Test.YthdkjfhpbigdpaaDoorKTreeAlts1
import Derived.Test.YthdkjfhpbigdpaaDoorProg
import Derived.Test.YthdkjfhpbigdpaaDoorKTreeAlts0
import Derived.Test.YthdkjfhpbigdpaaDoorYTreeAltsMore
import Derived.Test.YthdkjfhpbigdpaaDoorYTreeAltsLast
set_option linter.unusedSimpArgs false
set_option linter.unusedVariables false
namespace Go.Proofs.YthdkjfhpbigdpaaDoor.Ev
open Go Go.RowKit
set_option linter.unusedSimpArgs false
set_option linter.unusedVariables false

theorem oAll_mem {l : List Operand} (h : oAll l = true) : ∀ x ∈ l, oOk x = true := by simpa [oAll] using h
theorem Cel.conv {g : Gh} {a : AV} {v : Value} (h : Rep g a v) (ha : ∀ cs, a ≠ .agg cs) (hb : ∀ cs, a ≠ .tup cs) (hc : a ≠ .any) : Cel g a v := by
 cases h with
 | com c => cases c with
  | cel c => exact c
  | agg cs => exact absurd rfl (ha _)
 | tup cs => exact absurd rfl (hb _)
 | any => exact absurd rfl hc
theorem cellsA_rep {g : Gh} {a : AV} {v : Value} {cs : List AV} (h : Rep g a v) (k : cellsA a = some cs) : All2 (Cel g) cs v.cells.toList := by
 have one : ∀ {a : AV} {v : Value}, Cel g a v → All2 (Cel g) [a] v.cells.toList := fun {a v} c => by
  have h1 := c.one
  cases v <;> first|(simp [Value.oneCell'] at h1; done)|exact .cons c .nil
 cases a <;> simp only [cellsA, Option.some.injEq, reduceCtorEq] at k <;> subst k
 case agg =>
  cases h with
  | com c => cases c with
   | cel c => cases c with | pur p => cases p
   | agg cs => simpa [Value.cells] using cs
 all_goals exact one (Cel.conv h (by simp) (by simp) (by simp))
theorem scs_rep {g : Gh} {ev : Operand → AV} {ρ : Operand → Value} : ∀ {xs : List Operand} {vs : List Value}, (∀ x ∈ xs, Rep g (ev x) (ρ x)) → scs (xs.map ev) = some vs → xs.map ρ = vs
 | [], vs, _, h => by simpa [scs] using h.symm
 | x :: xs, vs, hr, h => by
  simp only [List.map_cons, scs] at h
  cases h1 : sc (ev x) with
  | none => simp [h1] at h
  | some u =>
   cases h2 : scs (xs.map ev) with
   | none => simp [h1, h2] at h
   | some l =>
    simp only [h1, h2, Option.some.injEq] at h
    subst h
    rw [List.map_cons, sc_rep (hr x (List.mem_cons_self ..)) h1, scs_rep (fun y hy => hr y (List.mem_cons_of_mem _ hy)) h2]
theorem scv_sound {P : Program} {k : Sc} {xs : List Operand} {vs : List Value} {av : AV} (h : scv P k xs vs = some av) : ∃ v, pureRun P (k.sem P xs vs) = some v ∧ av = .s v ∧ v.oneCell' = true := by
 unfold scv at h
 cases hp : pureRun P (k.sem P xs vs) with
 | none => simp [hp] at h
 | some r =>
  simp only [hp] at h
  split at h
  ·rename_i h1; cases h; exact ⟨r, rfl, rfl, h1⟩
  ·cases h
theorem rep_s {g : Gh} {v : Value} (h : v.oneCell' = true) : Rep g (.s v) v := .com (.cel (.pur (.s h)))
theorem rep_cel {g : Gh} {a : AV} {v : Value} (h : Cel g a v) : Rep g a v := .com (.cel h)
theorem toList_extract {α : Type} (l : List α) (i j : Nat) : l.toArray.extract i (i + j) = ((l.drop i).take j).toArray := by
 simp [List.extract_toArray, List.extract_eq_take_drop]
theorem cut_rep {g : Gh} {ag : Bool} {off n : Nat} {cs : List AV} {vs : List Value} {av : AV} (h : All2 (Cel g) cs vs) (k : cut ag off n cs = some av) :
  (ag = true ∧ off + n ≤ vs.length ∧ Rep g av (.agg ((vs.drop off).take n).toArray)) ∨ (ag = false ∧ ∃ v, vs[off]? = some v ∧ Cel g av v) := by
 unfold cut at k
 cases ag with
 | true =>
  simp only [if_true] at k
  split at k
  ·rename_i hle
   cases k
   exact .inl ⟨rfl, by rw [← h.length]; exact hle, .com (.agg ((h.drop off).take n))⟩
  ·cases k
 | false =>
  simp only [Bool.false_eq_true, if_false] at k
  obtain ⟨v, hv, c⟩ := h.get k
  exact .inr ⟨rfl, v, hv, c⟩
theorem run_loadVar_cells {P : Program} {t : TypeId} {ag : Bool} {n : Nat} (ha : aggOf P t = some ag) (hs : szOf P t = some n) (w : World) (b o : Nat) (vs : List Value)
  (hc : ∀ (j : Nat) (u : Value), vs[j]? = some u → w.cell? ⟨b, o + j, none⟩ = some u) :
  (ag = true → vs.length = n → (loadVar t ⟨b, o, none⟩).run P w = .ok (.agg vs.toArray) w) ∧ (ag = false → ∀ u, vs[0]? = some u → (loadVar t ⟨b, o, none⟩).run P w = .ok u w) := by
 constructor
 ·rintro rfl rfl
  have hl := run_loadCells_list (P := P) w ⟨b, o, none⟩ vs (fun j u hu => by rw [Addr.add_lit]; exact hc j u hu)
  simp [loadVar, run_isAgg ha w, run_sizeOf hs w, hl]
 ·rintro rfl u hu
  have := hc 0 u hu
  simp only [Nat.add_zero] at this
  simp [loadVar, run_isAgg ha w, this]
theorem fieldOf_spec {P : Program} {t : TypeId} {f : Nat} {ag : Bool} {off n : Nat} (h : fieldOf P t f = some (ag, off, n)) :
  ∃ fs fd, P.underlying t = some (.struct fs) ∧ fs[f]? = some fd ∧ aggOf P fd.type = some ag ∧ szOf P fd.type = some n ∧ fd.offset = off := by
 unfold fieldOf at h
 split at h
 ·rename_i fs hu
  split at h
  ·rename_i fd hf
   split at h
   ·rename_i a m h1 h2
    simp only [Option.some.injEq, Prod.mk.injEq] at h
    obtain ⟨rfl, rfl, rfl⟩ := h
    exact ⟨fs, fd, hu, hf, h1, h2, rfl⟩
   ·cases h
  ·cases h
 ·cases h
theorem elemOf_spec {P : Program} {t e : TypeId} (h : elemOf' P t = some e) : P.underlying t = some (.slice e) := by
 unfold elemOf' at h
 split at h
 ·rename_i hu; cases h; exact hu
 ·cases h
theorem isStr_spec {P : Program} {t : TypeId} (h : isStr P t = true) : P.underlying t = some .string := by
 unfold isStr at h
 split at h
 ·assumption
 ·cases h
theorem all2_of_get {S : Snap} : ∀ {cs : List AV} {vs : List Value}, vs.length = cs.length → (∀ (j : Nat) (c : AV), cs[j]? = some c → ∃ v, vs[j]? = some v ∧ Pur S c v) → All2 (Pur S) cs vs
 | [], [], _, _ => .nil
 | c :: cs, v :: vs, hl, h => by
  obtain ⟨u, hu, hp⟩ := h 0 c rfl
  simp at hu; subst hu
  exact .cons hp (all2_of_get (by simpa using hl) fun j c hj => by simpa using h (j + 1) c (by simpa using hj))
 | [], _ :: _, hl, _ => by simp at hl
 | _ :: _, [], hl, _ => by simp at hl
theorem flat_len {sz : Nat} : ∀ (xs : List (List AV)), (∀ c ∈ xs, c.length = sz) → xs.flatten.length = xs.length * sz
 | [], _ => by simp
 | c :: xs, h => by simp [h c (List.mem_cons_self ..), flat_len xs (fun c hc => h c (List.mem_cons_of_mem _ hc)), Nat.add_mul]; omega
def RoRow (S : Snap) (v : Value) (xs : List (List AV)) : Prop :=
 ((∃ A cap, v = .slice A 0 cap) ∧ xs = []) ∨ ∃ b o cap sz, v = .slice (some ⟨b, o, none⟩) xs.length cap ∧ xs.length ≤ cap ∧ (∀ c ∈ xs, c.length = sz) ∧ Rows S b o xs
def NowRow (S : Snap) (w : World) (v : Value) (xs : List (List AV)) : Prop :=
 ((∃ A cap, v = .slice A 0 cap) ∧ xs = []) ∨ ∃ b o cap vs, v = .slice (some ⟨b, o, none⟩) xs.length cap ∧ xs.length ≤ cap ∧ All2 (Pur S) xs.flatten vs ∧ ∀ (j : Nat) (u : Value), vs[j]? = some u → w.cell? ⟨b, o + j, none⟩ = some u
theorem pur_ro {S : Snap} {v : Value} {xs : List (List AV)} (p : Pur S (.row xs) v) : RoRow S v xs := by
 cases p with
 | row sz h r l m => subst l; exact .inr ⟨_, _, _, sz, rfl, m, h, r⟩
 | nil => exact .inl ⟨⟨_, _, rfl⟩, rfl⟩
theorem RoRow.now {S : Snap} {w : World} {v : Value} {xs : List (List AV)} (hA : Agr S w) (h : RoRow S v xs) : NowRow S w v xs := by
 rcases h with h | ⟨b, o, cap, sz, h1, h2, h3, h4⟩
 ·exact .inl h
 ·obtain ⟨vs, n1, n2, n3⟩ := h4.flat.vals
  exact .inr ⟨b, o, cap, vs, h1, h2, all2_of_get n1 n3, fun j u hj => hA.1 _ _ _ (n2 j u hj)⟩
section
variable {c : Cx} {fr : Nat → Prop} {g : Gh} {st : AS} {a : Act} {w : World}
theorem cel_ref {k : Nat} {v : Value} (h : Rep g (.ref k) v) : g.τ k = some v := by
 cases Cel.conv h (by simp) (by simp) (by simp) with
 | pur p => cases p
 | ref e _ => exact e
theorem nil_ro {S : Snap} {v : Value} (h : Rep g (.s (.slice none 0 0)) v) : RoRow S v [] := by
 cases Cel.conv h (by simp) (by simp) (by simp) with
 | pur p => cases p; exact .inl ⟨⟨_, _, rfl⟩, rfl⟩
theorem roOf_rep {x : AV} {v : Value} {xs : List (List AV)} (h : Rep g x v) (k : roOf x = some xs) : RoRow g.S v xs := by
 unfold roOf at k
 split at k
 ·cases k
  cases Cel.conv h (by simp) (by simp) (by simp) with
  | pur p => exact pur_ro p
 ·cases k; exact nil_ro h
 ·cases k
theorem own_now {e sz n : Nat} {v : Value} {vs : List Value} {B : Nat} {xs : List (List AV)} {S : Snap} (ho : w.ownsRow B e sz v n vs) (hn : xs.length = n) (hp : All2 (Pur S) xs.flatten vs) : NowRow S w v xs := by
 subst hn
 rcases ho.2 with ⟨h1, h2⟩ | ⟨h, cap, cur, hv, hb, hh, r1, r2, r3, r4⟩
 ·exact .inl ⟨⟨_, _, h1⟩, List.eq_nil_of_length_eq_zero h2⟩
 ·refine .inr ⟨h, 0, cap, vs, hv, r1, hp, fun j u hj => ?_⟩
  rw [Nat.zero_add, cell_of_row w h j cur e (0, 0) hh, ← Array.getElem?_toList]
  rw [← r4, List.getElem?_take] at hj
  split at hj
  ·exact hj
  ·cases hj
theorem rowOf_rep (R : Rel c fr g st a w) {x : AV} {v : Value} {xs : List (List AV)} (h : Rep g x v) (k : rowOf st.gr x = some xs) : NowRow g.S w v xs := by
 unfold rowOf at k
 split at k
 ·cases k
  cases Cel.conv h (by simp) (by simp) (by simp) with
  | pur p => exact (pur_ro p).now R.agr
 ·rename_i j
  split at k
  ·rename_i r hg
   cases k
   obtain ⟨v', e1, e2, e3, e4⟩ := R.row j _ hg
   rw [cel_ref h] at e1; cases e1
   cases hl : r.live with
   | true =>
    obtain ⟨vs, ho, hp, _⟩ := e3 hl
    exact own_now ho rfl hp
   | false => exact (pur_ro (e4 hl)).now R.agr
  ·cases k
 ·cases k; exact (nil_ro h).now R.agr
 ·cases k
end
theorem idxOf_rep {g : Gh} {a : AV} {v : Value} {j : Nat} (h : Rep g a v) (k : idxOf a = some j) : ∃ kd n, v = .int kd n ∧ 0 ≤ n ∧ n.toNat = j := by
 unfold idxOf at k
 split at k
 ·rename_i kd n
  have c := Cel.conv h (by simp) (by simp) (by simp)
  cases c with
  | pur p => cases p with
   | s _ =>
    split at k
    ·rename_i h0; cases k; exact ⟨kd, n, rfl, h0, rfl⟩
    ·cases k
 ·cases k
end Go.Proofs.YthdkjfhpbigdpaaDoor.Ev

namespace Go.Proofs.YthdkjfhpbigdpaaDoor.Ev
open Go Go.RowKit
set_option linter.unusedSimpArgs false
set_option linter.unusedVariables false

def PvOk (P : Program) (o : Oper) (g : Gh) (a : Act) (w : World) (av : AV) : Prop := ∃ v, (execOp a.eval o).run P w = .ok (.value v) w ∧ Rep g av v
section
variable {P : Program} {c : Cx} {fr : Nat → Prop} {g : Gh} {st : AS} {a : Act} {w : World} {dst : Option Tmp} {type : TypeId} {pos : String} {after : Array Edge} {guard : Option (Nat × Bool)} {av : AV}

theorem pv_mv (R : Rel c fr g st a w) {x : Operand} (hx : oOk x = true) (h : pv P st.ev st.bx st.gr (.mv x) = some av) :
  PvOk P ⟨dst, .move x, type, pos, after, guard⟩ g a w av ∧ PvOk P ⟨dst, .assign x, type, pos, after, guard⟩ g a w av := by
 simp only [pv, Option.some.injEq] at h; subst h
 exact ⟨⟨_, by simp [execOp], R.ev x hx⟩, ⟨_, by simp [execOp], R.ev x hx⟩⟩
theorem sc_bool {a : AV} {v : Value} {t : Bool} (h : Rep g a v) (k : a = .s (.bool t)) : v = .bool t := sc_rep h (by subst k; rfl)
theorem pv_pick (R : Rel c fr g st a w) {x y z : Operand} (hx : oAll [x, y, z] = true) (h : pv P st.ev st.bx st.gr (.pick x y z) = some av) : PvOk P ⟨dst, .pick x y z, type, pos, after, guard⟩ g a w av := by
 have ho := oAll_mem hx
 simp only [pv] at h
 split at h
 ·rename_i t ht
  cases h
  have e := sc_bool (R.ev x (ho x (by simp))) ht
  refine ⟨if t then a.eval y else a.eval z, by simp [execOp, e, asBool], ?_⟩
  cases t
  ·exact R.ev z (ho z (by simp))
  ·exact R.ev y (ho y (by simp))
 ·cases h
theorem pv_sc (R : Rel c fr g st a w) {k : Sc} {xs : List Operand} (hx : oAll xs = true) (h : pv P st.ev st.bx st.gr (.sc k xs) = some av) {o : Oper}
  (hs : execOp a.eval o = (do pure (.value (← k.sem P xs (xs.map a.eval))))) : PvOk P o g a w av := by
 simp only [pv] at h
 split at h
 ·rename_i vs hv
  obtain ⟨v, hp, rfl, h1⟩ := scv_sound h
  have e := scs_rep (ρ := a.eval) (fun x hm => R.ev x (oAll_mem hx x hm)) hv
  refine ⟨v, ?_, rep_s h1⟩
  rw [hs, e]
  simp [pureRun_run hp w]
 ·cases h
theorem pv_fa (R : Rel c fr g st a w) {t : TypeId} {x : Operand} {f off n : Nat} {ag : Bool} (hf : fieldOf P t f = some (ag, off, n)) (hx : oOk x = true) (hn : n ≠ 0) (h : pv P st.ev st.bx st.gr (.fa off x) = some av) :
  PvOk P ⟨dst, .fieldAddr t x f, type, pos, after, guard⟩ g a w av := by
 obtain ⟨fs, fd, hu, hfd, -, hsz, rfl⟩ := fieldOf_spec hf
 have hsn : szOf P fd.type = some n := hsz
 have go : ∀ b o, a.eval x = .pointer (some ⟨b, o, none⟩) → (execOp a.eval (⟨dst, .fieldAddr t x f, type, pos, after, guard⟩ : Oper)).run P w = .ok (.value (.pointer (some ⟨b, o + fd.offset, none⟩))) w := fun b o e => by
  simp [execOp, e, Instr.fieldAt, run_underlying hu, hfd, Instr.sureAddr, fieldPlace, run_sizeOf hsn, hn, Addr.add_lit]
 have r := R.ev x hx
 simp only [pv] at h
 split at h
 ·rename_i b o he
  cases h
  rw [he] at r
  generalize hv : a.eval x = v at r
  cases Cel.conv r (by simp) (by simp) (by simp) with
  | pur p => cases p
  | ptr hi => exact ⟨_, go _ _ hv, rep_cel (.ptr hi)⟩
 ·rename_i cs o he
  cases h
  rw [he] at r
  generalize hv : a.eval x = v at r
  cases Cel.conv r (by simp) (by simp) (by simp) with
  | pur p => cases p
  | elt hi => exact ⟨_, go _ _ hv, by rw [Nat.add_assoc]; exact rep_cel (.elt hi)⟩
 ·rename_i k sz i o he
  cases h
  rw [he] at r
  generalize hv : a.eval x = v at r
  cases Cel.conv r (by simp) (by simp) (by simp) with
  | pur p => cases p
  | rptr hi => exact ⟨_, go _ _ hv, by rw [Nat.add_assoc]; exact rep_cel (.rptr hi)⟩
 ·cases h
theorem pv_nc (R : Rel c fr g st a w) {x : Operand} (hx : oOk x = true) (h : pv P st.ev st.bx st.gr (.nc x) = some av) : PvOk P ⟨dst, .nilCheck x, type, pos, after, guard⟩ g a w av := by
 have r := R.ev x hx
 have go : ∀ p, a.eval x = .pointer (some p) → (execOp a.eval (⟨dst, .nilCheck x, type, pos, after, guard⟩ : Oper)).run P w = .ok (.value (.pointer (some p))) w := fun p e => by
  simp [execOp, e]
 simp only [pv] at h
 split at h
 ·rename_i b o he
  cases h
  rw [he] at r
  generalize hv : a.eval x = v at r
  cases Cel.conv r (by simp) (by simp) (by simp) with
  | pur p => cases p
  | ptr hi => exact ⟨_, go _ hv, rep_cel (.ptr hi)⟩
 ·rename_i cs o he
  cases h
  rw [he] at r
  generalize hv : a.eval x = v at r
  cases Cel.conv r (by simp) (by simp) (by simp) with
  | pur p => cases p
  | elt hi => exact ⟨_, go _ hv, rep_cel (.elt hi)⟩
 ·rename_i k sz i o he
  cases h
  rw [he] at r
  generalize hv : a.eval x = v at r
  cases Cel.conv r (by simp) (by simp) (by simp) with
  | pur p => cases p
  | rptr hi => exact ⟨_, go _ hv, rep_cel (.rptr hi)⟩
 ·cases h
theorem pv_fd (R : Rel c fr g st a w) {t : TypeId} {x : Operand} {f off n : Nat} {ag : Bool} (hf : fieldOf P t f = some (ag, off, n)) (hx : oOk x = true) (h : pv P st.ev st.bx st.gr (.fd ag off n x) = some av) :
  PvOk P ⟨dst, .field t x f, type, pos, after, guard⟩ g a w av := by
 obtain ⟨fs, fd, hu, hfd, hag, hsz, rfl⟩ := fieldOf_spec hf
 have r := R.ev x hx
 simp only [pv] at h
 split at h
 ·rename_i cs he
  rw [he] at r
  generalize hv : a.eval x = v at r
  cases r with
  | com cc => cases cc with
   | cel cc => cases cc with | pur p => cases p
   | agg hc =>
    rename_i vs
    rcases cut_rep hc h with ⟨rfl, hle, rp⟩ | ⟨rfl, u, hu', cl⟩
    ·exact ⟨_, by simp [execOp, hv, Instr.field, run_underlying hu, hfd, asAgg, part, run_isAgg hag, run_sizeOf hsz, toList_extract], rp⟩
    ·refine ⟨u, ?_, rep_cel cl⟩
     simp [execOp, hv, Instr.field, run_underlying hu, hfd, asAgg, part, run_isAgg hag, hu']
 ·cases h
theorem pv_ia (R : Rel c fr g st a w) {t e : TypeId} {x i : Operand} {sz : Nat} (he : elemOf' P t = some e) (hs : szOf P e = some sz) (hx : oAll [x, i] = true) (h : pv P st.ev st.bx st.gr (.ia sz x i) = some av) :
  PvOk P ⟨dst, .indexAddr t x i, type, pos, after, guard⟩ g a w av := by
 have ho := oAll_mem hx
 have hu := elemOf_spec he
 have r := R.ev x (ho x (by simp))
 have go : ∀ (b o len cap : Nat) (kd : IntKind) (n : Int), a.eval x = .slice (some ⟨b, o, none⟩) len cap → a.eval i = .int kd n → 0 ≤ n → n.toNat < len →
   (execOp a.eval (⟨dst, .indexAddr t x i, type, pos, after, guard⟩ : Oper)).run P w = .ok (.value (.pointer (some ⟨b, o + n.toNat * sz, none⟩))) w := fun b o len cap kd n hvx hv h0 hlt => by
  have hn : n < (len : Int) := by omega
  simp [execOp, hvx, hv, Instr.indexAt, asIntOf, run_underlying hu, h0, hn, run_sizeOf hs, Addr.add_lit]
 simp only [pv] at h
 split at h
 ·rename_i k hk
  split at h
  ·rename_i rr j hg hi'
   split at h
   ·rename_i hc
    cases h
    obtain ⟨kd, n, hv, h0, rfl⟩ := idxOf_rep (R.ev i (ho i (by simp))) hi'
    rw [hk] at r
    have hτ := cel_ref r
    obtain ⟨v', e1, e2, e3, e4⟩ := R.row k _ hg
    rw [hτ] at e1; cases e1
    have hblk : ∃ b cap, a.eval x = .slice (some ⟨b, 0, none⟩) rr.xs.length cap := by
     have hlen : ∀ b n cap, a.eval x = .slice b n cap → n = rr.xs.length := fun b n cap he => by
      cases hl : rr.live with
      | true =>
       obtain ⟨vs, ho', _⟩ := e3 hl
       rcases ho'.2 with ⟨q1, q2⟩ | ⟨h, cap', cur, q1, _⟩
       ·rw [q1] at he; cases he; omega
       ·rw [q1] at he; cases he; rfl
      | false =>
       rcases pur_ro (e4 hl) with ⟨⟨A0, c0, q⟩, hx⟩ | ⟨b', o', cap', sz', q, _⟩
       ·rw [q] at he; cases he; rw [hx]; rfl
       ·rw [q] at he; cases he; rfl
     rcases e2.2 with q | ⟨b, n, cap, q⟩
     ·have := hlen _ _ _ q; omega
     ·exact ⟨b, cap, by rw [← hlen _ _ _ q]; exact q⟩
    obtain ⟨b, cap, hvx⟩ := hblk
    refine ⟨_, go b 0 _ cap kd n hvx hv h0 hc.1, ?_⟩
    rw [hvx] at hτ
    rw [Nat.zero_add]
    exact rep_cel (.rptr (off := 0) hτ)
   ·cases h
  ·cases h
 ·rename_i xs hxs
  split at h
  ·rename_i j hi'
   obtain ⟨kd, n, hv, h0, rfl⟩ := idxOf_rep (R.ev i (ho i (by simp))) hi'
   split at h
   ·rename_i cl hc
    split at h
    ·rename_i hl
     cases h
     have hlt : n.toNat < xs.length := (List.getElem?_eq_some_iff.1 hc).1
     rw [hxs] at r
     have hro : RoRow g.S (a.eval x) xs := by
      cases Cel.conv r (by simp) (by simp) (by simp) with
      | pur p => exact pur_ro p
     rcases hro with ⟨_, rfl⟩ | ⟨b, o, cap, sz', hvx, hle, hk, hr⟩
     ·simp at hc
     ·have hsz : sz' = sz := by rw [← hl, hk cl (List.mem_of_getElem? hc)]
      subst hsz
      exact ⟨_, go b o _ cap kd n hvx hv h0 hlt, rep_cel (Cel.elt (g := g) (off := 0) (hr.get hk hc))⟩
    ·cases h
   ·cases h
  ·cases h
 ·cases h
theorem pv_ex (R : Rel c fr g st a w) {x : Operand} {i : Nat} (hx : oOk x = true) (h : pv P st.ev st.bx st.gr (.ex x i) = some av) : PvOk P ⟨dst, .extract x i, type, pos, after, guard⟩ g a w av := by
 have r := R.ev x hx
 simp only [pv] at h
 split at h
 ·rename_i vs he
  rw [he] at r
  generalize hv : a.eval x = v at r
  cases r with
  | com cc => cases cc with
   | cel cc => cases cc with | pur p => cases p
  | tup hc =>
   obtain ⟨u, hu, cm⟩ := hc.get h
   exact ⟨u, by simp [execOp, hv, Instr.extract, hu], .com cm⟩
 ·cases h
theorem pv_ln (R : Rel c fr g st a w) {x : Operand} {t e : TypeId} {cl : Callee} (he : elemOf' P t = some e) (hx : oOk x = true) (h : pv P st.ev st.bx st.gr (.ln x) = some av) :
  PvOk P ⟨dst, .call { callee := .builtin .len, args := #[x], argTypes := #[t] }, type, pos, after, guard⟩ g a w av := by
 have hu := elemOf_spec he
 have r := R.ev x hx
 have go : ∀ b n cap, a.eval x = .slice b n cap → (execOp a.eval (⟨dst, .call { callee := .builtin .len, args := #[x], argTypes := #[t] }, type, pos, after, guard⟩ : Oper)).run P w = .ok (.value (.int .i64 n)) w := fun b n cap e => by
  simp [execOp, resolve, invoke, builtin, Builtin.len_, run_underlying hu, e, goInt]
 simp only [pv] at h
 split at h
 ·rename_i xs hxs
  cases h
  rcases rowOf_rep R r hxs with ⟨⟨A0, c0, hv⟩, rfl⟩ | ⟨b, o, cap, vs, hvx, -⟩
  ·exact ⟨_, go _ _ _ hv, rep_s rfl⟩
  ·exact ⟨_, go _ _ _ hvx, rep_s rfl⟩
 ·cases h
end
end Go.Proofs.YthdkjfhpbigdpaaDoor.Ev

namespace Go.Proofs.YthdkjfhpbigdpaaDoor.Ev
open Go Go.RowKit
set_option linter.unusedSimpArgs false
set_option linter.unusedVariables false

theorem All2.put {g : Gh} {cs : List AV} {vs : List Value} {new : List AV} {nv : List Value} (h : All2 (Cel g) cs vs) (k : All2 (Cel g) new nv) (off : Nat) :
  All2 (Cel g) (put1 cs off new) (vs.take off ++ nv ++ vs.drop (off + nv.length)) := by
 unfold put1
 rw [k.length]
 exact ((h.take off).append k).append (h.drop _)
theorem foldl_set_list (off : Nat) (l : List Value) (cs : List Value) (h : off + l.length ≤ cs.length) :
  ((l.zipIdx 0).foldl (fun cs (x : Value × Nat) => cs.setIfInBounds (off + x.2) x.1) cs.toArray) = (cs.take off ++ l ++ cs.drop (off + l.length)).toArray := by
 obtain ⟨h1, h2⟩ := Great.foldl_set off l 0 cs.toArray
 apply Array.ext_getElem?
 intro k
 rw [h2 k]
 simp only [Nat.add_zero, List.size_toArray, List.getElem?_toArray]
 by_cases ha : k < off
 ·rw [if_neg (by omega), List.append_assoc, List.getElem?_append_left (by simp; omega), List.getElem?_take_of_lt ha]
 ·by_cases hb : k < off + l.length
  ·rw [if_pos (by omega), List.getElem?_append_left (by simp; omega), List.getElem?_append_right (by simp; omega)]
   congr 1; simp; omega
  ·rw [if_neg (by omega), List.getElem?_append_right (by simp; omega), List.getElem?_drop]
   congr 1; simp; omega
theorem mapAt {α β : Type} {f : α → Option β} : ∀ {l : List α} {r : List β}, l.mapM f = some r → ∀ (i : Nat) (a : α), l[i]? = some a → ∃ b, r[i]? = some b ∧ f a = some b
 | [], _, _, i, a, h => by simp at h
 | x :: l, r, hm, i, a, h => by
  simp only [List.mapM_cons, Option.bind_eq_bind, Option.pure_def, Option.bind_eq_some_iff, Option.some.injEq] at hm
  obtain ⟨b, hb, l', hl', rfl⟩ := hm
  cases i with
  | zero => simp at h; subst h; exact ⟨b, rfl, hb⟩
  | succ i => simpa using mapAt hl' i a (by simpa using h)
theorem bld_rep {P : Program} {g : Gh} {t : TypeId} {places : List (Nat × Nat)} {fs : Array Field} (hu : P.underlying t = some (.struct fs))
  (hp : fs.toList.mapM (fun f => (P.info? f.type).map fun i => (f.offset, i.size)) = some places) {ev : Operand → AV} {ρ : Operand → Value} :
  ∀ {ps : List (Nat × Operand)} {l : List (Nat × Nat × Operand)} {cs : List AV} {vs : List Value} {out : List AV}, (∀ p ∈ ps, Rep g (ev p.2) (ρ p.2)) → bldParts P t ps = some l → All2 (Cel g) cs vs →
   fillA cs (l.map fun p => (p.1, p.2.1, ev p.2.2)) = some out → ∃ r, Instr.fill (places.toArray[·]?) vs.toArray (ps.map fun p => (p.1, ρ p.2)) = some r ∧ All2 (Cel g) out r.toList
 | [], l, cs, vs, out, _, hb, hc, hf => by
  simp only [bldParts, Option.some.injEq] at hb
  subst hb
  simp only [List.map_nil, fillA, Option.some.injEq] at hf
  subst hf
  exact ⟨_, rfl, by simpa using hc⟩
 | (i, x) :: ps, l, cs, vs, out, hr, hb, hc, hf => by
  simp only [bldParts] at hb
  split at hb
  ·rename_i ag off n l' hfo hb'
   cases hb
   obtain ⟨fs', fd, hu', hfd, -, hsz, rfl⟩ := fieldOf_spec hfo
   rw [hu] at hu'; cases hu'
   simp only [List.map_cons, fillA] at hf
   split at hf
   ·rename_i new hn
    split at hf
    ·rename_i hle
     have hnew := cellsA_rep (hr (i, x) (List.mem_cons_self ..)) hn
     have hplace : (places.toArray[i]? : Option (Nat × Nat)) = some (fd.offset, n) := by
      rw [List.getElem?_toArray]
      obtain ⟨b, hb, he⟩ := mapAt hp i fd (by simpa using hfd)
      rw [hb]
      unfold szOf at hsz
      cases hi : P.info? fd.type with
      | none => simp [hi] at hsz
      | some q => simp [hi] at hsz he; rw [← he, hsz]
     have hlen := hnew.length
     have hcl := hc.length
     obtain ⟨r, hr1, hr2⟩ := bld_rep hu hp (fun p hp => hr p (List.mem_cons_of_mem _ hp)) hb' (hc.put hnew fd.offset) hf
     refine ⟨r, ?_, hr2⟩
     simp only [List.map_cons, Instr.fill, hplace]
     have hsz1 : (ρ x).cells.size = n := by rw [← Array.length_toList, ← hlen]; exact hle.1
     rw [if_neg (by simp only [List.size_toArray, hsz1]; simp; omega), ← hr1]
     congr 1
     rw [← Array.foldl_toList, Array.toList_zipIdx]
     exact foldl_set_list _ _ _ (by simp only [Array.length_toList]; omega)
    ·cases hf
   ·cases hf
  ·cases hb
theorem mapM_places {P : Program} : ∀ (fs : List Field), (fs.all fun f => (szOf P f.type).isSome) = true → ∃ places, fs.mapM (fun f => (P.info? f.type).map fun i => (f.offset, i.size)) = some places
 | [], _ => ⟨[], rfl⟩
 | f :: fs, h => by
  simp only [List.all_cons, Bool.and_eq_true] at h
  obtain ⟨l, hl⟩ := mapM_places fs h.2
  obtain ⟨n, hn⟩ := Option.isSome_iff_exists.1 h.1
  unfold szOf at hn
  cases hi : P.info? f.type with
  | none => simp [hi] at hn
  | some i => exact ⟨(f.offset, i.size) :: l, by simp [List.mapM_cons, hi, hl]⟩
theorem zeroOf_spec {P : Program} {t : TypeId} {z : List Value} (h : zeroOf P t = some z) : ∃ (i : TypeInfo) (v : Value), P.info? t = some i ∧ i.zero = some v ∧ v.cells.toList = z ∧ z.all Value.oneCell' = true := by
 unfold zeroOf at h
 cases hi : P.info? t with
 | none => simp [hi] at h
 | some i =>
  simp only [hi] at h
  cases hz : i.zero with
  | none => simp [hz] at h
  | some v =>
   simp only [hz] at h
   split at h
   ·rename_i hall; cases h; exact ⟨i, v, rfl, hz, rfl, hall⟩
   ·cases h
section
variable {P : Program} {c : Cx} {fr : Nat → Prop} {g : Gh} {st : AS} {a : Act} {w : World} {dst : Option Tmp} {type : TypeId} {pos : String} {after : Array Edge} {guard : Option (Nat × Bool)} {av : AV}
theorem pv_bld (R : Rel c fr g st a w) {t : TypeId} {ps : Array (Nat × Operand)} {z : List Value} {l : List (Nat × Nat × Operand)} (hz : zeroOf P t = some z) (hl : bldParts P t ps.toList = some l)
  (ho : oAll (ps.toList.map (·.2)) = true) (hk : fieldsOk P t = true) (h : pv P st.ev st.bx st.gr (.bld z l) = some av) : PvOk P ⟨dst, .build t ps, type, pos, after, guard⟩ g a w av := by
 obtain ⟨i, zv, hi, hiz, rfl, hone⟩ := zeroOf_spec hz
 unfold fieldsOk at hk
 split at hk
 ·rename_i fs hu
  obtain ⟨places, hp⟩ := mapM_places fs.toList hk
  simp only [pv, Option.map_eq_some_iff] at h
  obtain ⟨out, hf, rfl⟩ := h
  obtain ⟨r, h1, h2⟩ := bld_rep (ρ := a.eval) hu hp (fun p hm => R.ev p.2 (oAll_mem ho _ (List.mem_map_of_mem hm))) hl (all2_s (g := g) _ hone) hf
  refine ⟨.agg r, ?_, ?_⟩
  ·have hb : P.built t (ps.map fun (i, x) => (i, a.eval x)).toList = some r := by
    unfold Program.built
    simp only [hi, hu, hiz, hp]
    rw [← h1]
    congr 1
    simp
   simp [execOp, run_build w t _ r hb]
  ·have := Com.agg h2
   simp only [Array.toArray_toList] at this
   exact .com this
 ·cases hk
theorem pv_rs (R : Rel c fr g st a w) {t e : TypeId} {x : Operand} {lo hi : Option Operand} {sz : Nat} (he : elemOf' P t = some e) (hs : szOf P e = some sz) (hx : oAll ([x] ++ lo.toList ++ hi.toList) = true)
  (h : pv P st.ev st.bx st.gr (.rs sz x lo hi) = some av) : PvOk P ⟨dst, .slice t x lo hi none, type, pos, after, guard⟩ g a w av := by
 have ho := oAll_mem hx
 have hu := elemOf_spec he
 simp only [pv] at h
 split at h
 ·rename_i xs hxs
  split at h
  ·rename_i l hh hl' hh'
   split at h
   ·rename_i hcond
    cases h
    obtain ⟨hlh, hhn, hall⟩ := hcond
    have key : ∀ (b : Option Addr) (n cap : Nat), a.eval x = .slice b n cap → n = xs.length → n ≤ cap →
      (execOp a.eval (⟨dst, .slice t x lo hi none, type, pos, after, guard⟩ : Oper)).run P w = .ok (.value (.slice (if cap = l then b else b.map (·.add (l * sz))) (hh - l) (cap - l))) w := fun b n cap hb hn hc => by
     cases hi with
     | none =>
      simp only [Option.some.injEq] at hh'
      subst hh' hn
      cases lo with
      | none =>
       simp only [Option.some.injEq] at hl'
       subst hl'
       simp [execOp, hb, Instr.sliceAt, run_underlying hu, Instr.slice, Instr.sliceBounds, run_sizeOf hs]
      | some y =>
       obtain ⟨kd, n, hv, h0, rfl⟩ := idxOf_rep (R.ev y (ho y (by simp))) hl'
       have hb1 := run_sliceBound (P := P) w kd n xs.length .sliceB h0 (by omega)
       simp [execOp, hb, hv, Instr.sliceAt, run_underlying hu, Instr.slice, Instr.sliceBounds, run_sizeOf hs, hb1]
     | some z =>
      obtain ⟨kd', m, hv', h0', rfl⟩ := idxOf_rep (R.ev z (ho z (by simp))) hh'
      have hb2 := run_sliceBound (P := P) w kd' m cap .sliceAcap h0' (by omega)
      cases lo with
      | none =>
       simp only [Option.some.injEq] at hl'
       subst hl'
       simp [execOp, hb, hv', Instr.sliceAt, run_underlying hu, Instr.slice, Instr.sliceBounds, run_sizeOf hs, hb2]
      | some y =>
       obtain ⟨kd, n, hv, h0, rfl⟩ := idxOf_rep (R.ev y (ho y (by simp))) hl'
       have hb1 := run_sliceBound (P := P) w kd n m.toNat .sliceB h0 (by omega)
       simp [execOp, hb, hv, hv', Instr.sliceAt, run_underlying hu, Instr.slice, Instr.sliceBounds, run_sizeOf hs, hb1, hb2]
    rcases roOf_rep (R.ev x (ho x (by simp))) hxs with ⟨⟨A0, c0, hv⟩, rfl⟩ | ⟨b, o, cap, sz', hv, hle, hk, hr⟩
    ·have h0 : hh = 0 := by simp at hhn; exact hhn
     subst h0
     have hl0 : l = 0 := by omega
     subst hl0
     exact ⟨_, key _ _ _ hv rfl (Nat.zero_le _), by simpa using rep_cel (.pur (.nil (S := g.S)))⟩
    ·refine ⟨_, key _ _ _ hv rfl hle, ?_⟩
     have hall' : ∀ c ∈ xs, c.length = sz := by simpa using hall
     by_cases hcl : cap = l
     ·rw [if_pos hcl]
      have hhl : hh = l := by omega
      subst hhl
      have hnil : (xs.take hh).drop hh = [] := by simp
      rw [hnil, Nat.sub_self]
      exact rep_cel (.pur (.row sz (by simp) .nil rfl (Nat.zero_le _)))
     ·rw [if_neg hcl]
      have hd := Rows.drop (fun c hc => hall' c (List.mem_of_mem_take hc)) (hr.take hh) l (by simp; omega)
      simp only [Option.map_some, Addr.add_lit]
      exact rep_cel (.pur (.row sz (fun c hc => hall' c (List.mem_of_mem_take (List.mem_of_mem_drop hc))) hd (by simp; omega) (by omega)))
   ·cases h
  ·cases h
 ·cases h
theorem pv_ld (R : Rel c fr g st a w) {t : TypeId} {x : Operand} {n : Nat} {ag : Bool} (ha : aggOf P t = some ag) (hs : szOf P t = some n) (hx : oOk x = true) (h : pv P st.ev st.bx st.gr (.ld ag n x) = some av) :
  PvOk P ⟨dst, .load t x, type, pos, after, guard⟩ g a w av := by
 have r := R.ev x hx
 have go : ∀ (b o : Nat) (vs : List Value) (cs : List AV), a.eval x = .pointer (some ⟨b, o, none⟩) → (∀ (j : Nat) (u : Value), vs[j]? = some u → w.cell? ⟨b, j, none⟩ = some u) → All2 (Cel g) cs vs → cut ag o n cs = some av →
   PvOk P ⟨dst, .load t x, type, pos, after, guard⟩ g a w av := fun b o vs cs hv hc h2 hcut => by
  rcases cut_rep h2 hcut with ⟨rfl, hle, rp⟩ | ⟨rfl, u, hu', cl⟩
  ·have := (run_loadVar_cells ha hs w b o ((vs.drop o).take n) (fun j u hu => by
    rw [List.getElem?_take] at hu
    split at hu
    ·rw [List.getElem?_drop] at hu; exact hc _ _ hu
    ·cases hu)).1 rfl (by simp; omega)
   exact ⟨_, by simp [execOp, hv, Instr.loadAt, Instr.sureAddr, this], rp⟩
  ·have := (run_loadVar_cells ha hs w b o (vs.drop o) (fun j u hu => by rw [List.getElem?_drop] at hu; exact hc _ _ hu)).2 rfl u (by simpa using hu')
   exact ⟨_, by simp [execOp, hv, Instr.loadAt, Instr.sureAddr, this], rep_cel cl⟩
 simp only [pv] at h
 split at h
 ·rename_i b o he
  split at h
  ·rename_i cs hb
   obtain ⟨hblk, vs, T, hi, -, hheap, hall, -⟩ := R.box b cs hb
   rw [he] at r
   generalize hv : a.eval x = v at r
   cases Cel.conv r (by simp) (by simp) (by simp) with
   | pur p => cases p
   | ptr hi' =>
    rw [hi] at hi'; cases hi'
    exact go _ _ vs.toList cs hv (fun j u hu => by rw [cell_of_row w _ j vs T (0, 0) hheap]; simpa using hu) hall h
  ·cases h
 ·rename_i cs o he
  rw [he] at r
  generalize hv : a.eval x = v at r
  cases Cel.conv r (by simp) (by simp) (by simp) with
  | pur p => cases p
  | elt hcells =>
   rename_i b o'
   obtain ⟨vs, h1, h2, h3⟩ := hcells.vals
   have hall : All2 (Cel g) cs vs := by
    clear h r hv he
    induction cs generalizing o' vs with
    | nil => simp at h1; subst h1; exact .nil
    | cons c0 cs ih =>
     cases vs with
     | nil => simp at h1
     | cons v0 vs =>
      cases hcells with
      | cons hS hp hr =>
       obtain ⟨u, hu, hp'⟩ := h3 0 c0 rfl
       simp at hu; subst hu
       exact .cons (.pur hp') (ih hr vs (by simpa using h1) (fun j v hj => by rw [show o' + 1 + j = o' + (j + 1) by omega]; exact h2 (j + 1) v (by simpa using hj)) (fun j c hj => by simpa using h3 (j + 1) c (by simpa using hj)))
   rcases cut_rep hall h with ⟨rfl, hle, rp⟩ | ⟨rfl, u, hu', cl⟩
   ·have := (run_loadVar_cells ha hs w b (o' + o) ((vs.drop o).take n) (fun j u hu => by
     rw [List.getElem?_take] at hu
     split at hu
     ·rw [List.getElem?_drop] at hu; rw [Nat.add_assoc]; exact R.agr.1 _ _ _ (h2 _ _ hu)
     ·cases hu)).1 rfl (by simp; omega)
    exact ⟨_, by simp [execOp, hv, Instr.loadAt, Instr.sureAddr, this], rp⟩
   ·have := (run_loadVar_cells ha hs w b (o' + o) (vs.drop o) (fun j u hu => by rw [List.getElem?_drop] at hu; rw [Nat.add_assoc]; exact R.agr.1 _ _ _ (h2 _ _ hu))).2 rfl u (by simpa using hu')
    exact ⟨_, by simp [execOp, hv, Instr.loadAt, Instr.sureAddr, this], rep_cel cl⟩
 ·rename_i k sz i o he
  split at h
  ·rename_i rr hg
   split at h
   ·rename_i cs hcs
    split at h
    ·rename_i hsz
     subst hsz
     rw [he] at r
     generalize hv : a.eval x = v at r
     obtain ⟨v', e1, ⟨e2, _⟩, e3, e4⟩ := R.row k _ hg
     cases Cel.conv r (by simp) (by simp) (by simp) with
     | pur p => cases p
     | rptr hτ =>
      rename_i b n cap
      rw [hτ] at e1; cases e1
      have hnow : NowRow g.S w (.slice (some ⟨b, 0, none⟩) n cap) rr.xs := by
       cases hl : rr.live with
       | true => obtain ⟨vs, ho, hp, _⟩ := e3 hl; exact own_now ho rfl hp
       | false => exact (pur_ro (e4 hl)).now R.agr
      rcases hnow with ⟨_, hx0⟩ | ⟨b', o', cap', vs, q, _, hp, hcell⟩
      ·rw [hx0] at hcs; simp at hcs
      ·cases q
       have hi : i < rr.xs.length := (List.getElem?_eq_some_iff.1 hcs).1
       have hpart : All2 (Cel g) cs ((vs.drop (i * rr.sz)).take rr.sz) := by
        have hd : cs = (rr.xs.flatten.drop (i * rr.sz)).take rr.sz := by
         have : ∀ (xs : List (List AV)) (i : Nat), (∀ c ∈ xs, c.length = rr.sz) → xs[i]? = some cs → cs = (xs.flatten.drop (i * rr.sz)).take rr.sz := fun xs => by
          induction xs with
          | nil => intro i _ h; simp at h
          | cons c xs ih =>
           intro i hk h
           have hc := hk c (List.mem_cons_self ..)
           cases i with
           | zero => simp at h; subst h; simp [← hc]
           | succ i =>
            rw [List.flatten_cons, show (i + 1) * rr.sz = c.length + i * rr.sz by rw [hc, Nat.add_mul]; omega, List.drop_length_add_append]
            exact ih i (fun c hc => hk c (List.mem_cons_of_mem _ hc)) (by simpa using h)
         exact this rr.xs i e2 hcs
        have h2 := (hp.drop (i * rr.sz)).take rr.sz
        rw [← hd] at h2
        exact h2.imp fun _ _ p => .pur p
       rcases cut_rep hpart h with ⟨rfl, hle, rp⟩ | ⟨rfl, u, hu', cl⟩
       ·have := (run_loadVar_cells ha hs w b (i * rr.sz + o) ((((vs.drop (i * rr.sz)).take rr.sz).drop o).take n) (fun j u hu => by
         rw [List.getElem?_take] at hu
         split at hu
         ·rw [List.getElem?_drop, List.getElem?_take] at hu
          split at hu
          ·rw [List.getElem?_drop] at hu
           have := hcell _ _ hu
           rwa [Nat.zero_add, ← Nat.add_assoc] at this
          ·cases hu
         ·cases hu)).1 rfl (by rw [List.length_take, List.length_drop]; omega)
        exact ⟨_, by simp [execOp, hv, Instr.loadAt, Instr.sureAddr, this], rp⟩
       ·have := (run_loadVar_cells ha hs w b (i * rr.sz + o) (((vs.drop (i * rr.sz)).take rr.sz).drop o) (fun j u hu => by
         rw [List.getElem?_drop, List.getElem?_take] at hu
         split at hu
         ·rw [List.getElem?_drop] at hu
          have := hcell _ _ hu
          rwa [Nat.zero_add, ← Nat.add_assoc] at this
         ·cases hu)).2 rfl u (by simpa using hu')
        exact ⟨_, by simp [execOp, hv, Instr.loadAt, Instr.sureAddr, this], rep_cel cl⟩
    ·cases h
   ·cases h
  ·cases h
 ·cases h
end
end Go.Proofs.YthdkjfhpbigdpaaDoor.Ev

namespace Go.Proofs.YthdkjfhpbigdpaaDoor.Ev
open Go Go.RowKit
set_option linter.unusedSimpArgs false
set_option linter.unusedVariables false

theorem lt_of_heap {w : World} {h : Nat} {o : Obj} (e : w.heap[h]? = some o) : h < w.heap.size := (Array.getElem?_eq_some_iff.1 e).1
section
variable {c : Cx} {fr : Nat → Prop} {g : Gh} {st : AS} {a : Act} {w : World}
theorem Rel.owned (R : Rel c fr g st a w) {x : Bool × Nat} {h : Nat} (o : Owns st g x h) : h < w.heap.size ∧ (c.w0.heap.size ≤ h ∨ h ∈ c.gs) := by
 obtain ⟨b, i⟩ := x
 cases b with
 | true =>
  obtain ⟨h1, h2⟩ := o
  cases hb : st.bx i with
  | none => exact absurd hb h1
  | some cs =>
   obtain ⟨h', vs, T, e, k, hh, -, -⟩ := R.box i cs hb
   rw [h2] at e; cases e
   exact ⟨lt_of_heap hh, k⟩
 | false =>
  obtain ⟨h1, v, h2, h3⟩ := o
  obtain ⟨r, hr, hl⟩ := h1
  obtain ⟨v', e, _, e3, _⟩ := R.row i r hr
  rw [h2] at e; cases e
  obtain ⟨vs, ho, _⟩ := e3 hl
  have := ho.lt _ h3
  exact ⟨this.2, .inl this.1⟩
theorem Rel.put (R : Rel c fr g st a w) {d : Option Nat} {av : AV} {v : Value} (hd : ∀ i, d = some i → i < c.n) (r : Rep g av v) : Rel c fr g (st.put d av) (a.put d v) w := by
 cases d with
 | none => exact R
 | some i =>
  have hi := hd i rfl
  refine ⟨by simp [Act.put, R.size], by simp [Act.put, R.defers], R.keep, R.sle, R.old, R.agr, fun j => ?_, R.box, R.row, R.inj, R.free⟩
  simp only [AS.put, Act.put]
  by_cases hj : j = i
  ·subst hj
   rw [if_pos rfl]
   have : (a.tmps.setIfInBounds j v).getD j undef = v := by simp [R.size, hi]
   rw [this]
   exact r
  ·rw [if_neg hj]
   have : (a.tmps.setIfInBounds i v).getD j undef = a.tmps.getD j undef := by
    simp [Array.getElem?_setIfInBounds_ne (Ne.symm hj)]
   rw [this]
   exact R.tmp j
theorem Rel.world (R : Rel c fr g st a w) {w' : World} (hk : Keep c.w0.heap.size c.gs w w') (hagr : Agr g.S w') (ho : ∀ x h, Owns st g x h → w'.heap[h]? = w.heap[h]?) : Rel c fr g st a w' := by
 refine ⟨R.size, R.defers, R.keep.trans hk, R.sle, R.old, hagr, R.tmp, fun b cs hb => ?_, fun k r hl => ?_, R.inj, R.free⟩
 ·obtain ⟨h, vs, T, e, k, hh, r⟩ := R.box b cs hb
  exact ⟨h, vs, T, e, k, by rw [ho (true, b) h ⟨by simp [hb], e⟩]; exact hh, r⟩
 ·obtain ⟨v, e1, e2, e3, e4⟩ := R.row k r hl
  refine ⟨v, e1, e2, fun hv => ?_, e4⟩
  obtain ⟨vs, hown, q⟩ := e3 hv
  refine ⟨vs, ⟨hown.1, ?_⟩, q⟩
  rcases hown.2 with h | ⟨h, cap, cur, hv', hb, hh, r'⟩
  ·exact .inl h
  ·exact .inr ⟨h, cap, cur, hv', hb, by rw [ho (false, k) h ⟨⟨r, hl, hv⟩, v, e1, by rw [hv']; rfl⟩]; exact hh, r'⟩
theorem Agr.below {S : Snap} {w w' : World} (h : Agr S w) (k : Below w.heap.size w w') : Agr S w' := ⟨fun b o v e => by
 have := h.1 b o v e
 rw [k.cell (World.block_lt_of_cell? w _ this)]
 exact this, fun b o v o' v' e e' => by
 have hlt := World.block_lt_of_cell? w _ (h.1 b o v e)
 rw [k.cell (p := ⟨b, o', none⟩) hlt] at e'
 exact h.2 b o v o' v' e e'⟩
theorem Keep.of_below' {B : Nat} {gs : List Nat} {w w' : World} (h : Below w.heap.size w w') (hB : B ≤ w.heap.size) : Keep B gs w w' := .of_below (h.mono hB)
theorem Rel.step (R : Rel c fr g st a w) {w' : World} (h : Below w.heap.size w w') : Rel c fr g st a w' :=
 R.world (.of_below' h R.keep.size) (R.agr.below h) fun x b ho => h.block b (R.owned ho).1
theorem Rel.none (R : Rel c fr g st a w) {h : Nat} (hh : w.heap.size ≤ h) (o : Nat) : g.S h o = none := by
 cases e : g.S h o with
 | none => rfl
 | some v => have := R.agr.lt e; omega
theorem Rel.unowned (R : Rel c fr g st a w) {h : Nat} (hh : w.heap.size ≤ h) (x : Bool × Nat) : ¬ Owns st g x h := fun o => by have := (R.owned o).1; omega
theorem Rel.ext (R : Rel c fr g st a w) {S' : Snap} (hle : SLe g.S S') (hagr : Agr S' w) (hn : ∀ b o, S' b o ≠ g.S b o → c.w0.heap.size ≤ b ∧ ∀ x, ¬ Owns st g x b) :
  Rel c fr { g with S := S' } st a w := by
 have L : g.Le { g with S := S' } := ⟨hle, fun _ _ h => h, fun _ _ h => h⟩
 refine ⟨R.size, R.defers, R.keep, R.sle.trans hle, fun b o hb => ?_, hagr, fun i => (R.tmp i).mono L, fun b cs hb => ?_, fun k r hl => ?_, R.inj, R.free⟩
 ·rw [← R.old b o hb]
  exact Classical.byContradiction fun h => by have := (hn b o h).1; omega
 ·obtain ⟨h, vs, T, e, k, hh, hc, hs⟩ := R.box b cs hb
  refine ⟨h, vs, T, e, k, hh, hc.imp fun _ _ x => x.mono L, fun o => ?_⟩
  rw [← hs o]
  exact Classical.byContradiction fun hne => (hn h o hne).2 (true, b) ⟨by simp [hb], e⟩
 ·obtain ⟨v, e1, e2, e3, e4⟩ := R.row k r hl
  refine ⟨v, e1, e2, fun hv => ?_, fun hv => (e4 hv).mono hle⟩
  obtain ⟨vs, hown, hp, hS⟩ := e3 hv
  refine ⟨vs, hown, hp.imp fun _ _ p => p.mono hle, fun h hb o => ?_⟩
  rw [← hS h hb o]
  exact Classical.byContradiction fun hne => (hn h o hne).2 (false, k) ⟨⟨r, hl, hv⟩, v, e1, hb⟩
theorem Rel.kill (R : Rel c fr g st a w) (k : Option Nat) : Rel c fr g { st with gr := killT st.gr k } a w := by
 cases k with
 | none => exact R
 | some k =>
  have sub : ∀ j es, (upd st.gr k Option.none) j = some es → st.gr j = some es := fun j es h => by
   unfold upd at h
   split at h
   ·cases h
   ·exact h
  refine ⟨R.size, R.defers, R.keep, R.sle, R.old, R.agr, R.tmp, R.box, fun j r hl => R.row j r (sub j _ hl), ?_, R.free⟩
  have own : ∀ x h, Owns { st with gr := killT st.gr (some k) } g x h → Owns st g x h := fun x h => by
   obtain ⟨b, i⟩ := x
   cases b with
   | true => exact id
   | false =>
    rintro ⟨⟨r, h1, h2⟩, q⟩
    exact ⟨⟨r, sub _ _ h1, h2⟩, q⟩
  exact fun x y h hx hy => R.inj x y h (own x h hx) (own y h hy)
theorem Rel.addBox (R : Rel c fr g st a w) {id h : Nat} {cs : List AV} {vs : Array Value} {T : TypeId} (hf : fr id) (hb : c.w0.heap.size ≤ h) (hh : w.heap[h]? = some (.cells vs T (0, 0)))
  (hu : ∀ x, ¬ Owns st g x h) (hs : ∀ o, g.S h o = Option.none) (hc : All2 (Cel g) cs vs.toList) :
  Rel c (fun i => fr i ∧ i ≠ id) { g with ι := upd g.ι id (some h) } { st with bx := upd st.bx id (some cs) } a w ∧ g.Le { g with ι := upd g.ι id (some h) } := by
 have hι := (R.free id hf).1
 have L : g.Le { g with ι := upd g.ι id (some h) } := ⟨SLe.refl _, fun b x e => by
  show upd g.ι id (some h) b = some x
  unfold upd
  split
  ·rename_i he; subst he; rw [hι] at e; cases e
  ·exact e, fun _ _ e => e⟩
 have own : ∀ x b, Owns { st with bx := upd st.bx id (some cs) } { g with ι := upd g.ι id (some h) } x b → (x = (true, id) ∧ b = h) ∨ (x ≠ (true, id) ∧ Owns st g x b) := fun x b => by
  obtain ⟨t, i⟩ := x
  cases t with
  | true =>
   rintro ⟨h1, h2⟩
   simp only [upd] at h1 h2
   by_cases hi : i = id
   ·subst hi; simp at h2; exact .inl ⟨rfl, h2.symm⟩
   ·simp only [hi, if_false] at h1 h2
    exact .inr ⟨by simp [hi], h1, h2⟩
  | false => exact fun k => .inr ⟨by simp, k⟩
 refine ⟨⟨R.size, R.defers, R.keep, R.sle, R.old, R.agr, fun i => (R.tmp i).mono L, fun b cs' hb' => ?_, fun k r hl => ?_, fun x y b hx hy => ?_, fun i hi => ?_⟩, L⟩
 ·simp only [upd] at hb'
  split at hb'
  ·rename_i he; subst he; cases hb'
   exact ⟨h, vs, T, by simp [upd], .inl hb, hh, hc.imp fun _ _ x => x.mono L, hs⟩
  ·rename_i he
   obtain ⟨h', vs', T', e, k, hh', hc', hs'⟩ := R.box b cs' hb'
   exact ⟨h', vs', T', by simp [upd, he, e], k, hh', hc'.imp fun _ _ x => x.mono L, hs'⟩
 ·obtain ⟨v, e1, e2, e3, e4⟩ := R.row k r hl
  exact ⟨v, e1, e2, e3, e4⟩
 ·rcases own x b hx with ⟨rfl, rfl⟩ | ⟨hx1, hx2⟩ <;> rcases own y b hy with ⟨rfl, hy'⟩ | ⟨hy1, hy2⟩
  ·rfl
  ·exact absurd hy2 (hu y)
  ·subst hy'; exact absurd hx2 (hu x)
  ·exact R.inj x y b hx2 hy2
 ·obtain ⟨h1, h2⟩ := R.free i hi.1
  exact ⟨by simp [upd, hi.2, h1], h2⟩
theorem Rel.addRow (R : Rel c fr g st a w) {id e sz : Nat} {v : Value} {xs : List (List AV)} {vs : List Value} (hf : fr id) (hown : w.ownsRow c.w0.heap.size e sz v xs.length vs) (hsz : ∀ c ∈ xs, c.length = sz) (hp : All2 (Pur g.S) xs.flatten vs)
  (hu : ∀ h, v.ownBlock = some h → ∀ x, ¬ Owns st g x h) (hs : ∀ h, v.ownBlock = some h → ∀ o, g.S h o = Option.none) :
  Rel c (fun i => fr i ∧ i ≠ id) { g with τ := upd g.τ id (some v) } { st with gr := upd st.gr id (some ⟨e, sz, xs, true⟩) } a w ∧ g.Le { g with τ := upd g.τ id (some v) } := by
 have hτ := (R.free id hf).2
 have L : g.Le { g with τ := upd g.τ id (some v) } := ⟨SLe.refl _, fun _ _ e => e, fun b x e => by
  show upd g.τ id _ b = some x
  unfold upd
  split
  ·rename_i he; subst he; rw [hτ] at e; cases e
  ·exact e⟩
 have own : ∀ x b, Owns { st with gr := upd st.gr id (some ⟨e, sz, xs, true⟩) } { g with τ := upd g.τ id (some v) } x b → (x = (false, id) ∧ v.ownBlock = some b) ∨ (x ≠ (false, id) ∧ Owns st g x b) := fun x b => by
  obtain ⟨t, i⟩ := x
  cases t with
  | false =>
   rintro ⟨⟨r, h1, hl⟩, v', h2, h3⟩
   simp only [upd] at h1 h2
   by_cases hi : i = id
   ·subst hi; simp at h2; subst h2; exact .inl ⟨rfl, h3⟩
   ·simp only [hi, if_false] at h1 h2
    exact .inr ⟨by simp [hi], ⟨r, h1, hl⟩, v', h2, h3⟩
  | true => exact fun k => .inr ⟨by simp, k⟩
 have hb0 : Base0 v := by
  rcases hown.2 with ⟨q, _⟩ | ⟨h, cap, cur, q, _⟩
  ·exact .inl q
  ·exact .inr ⟨h, _, cap, q⟩
 refine ⟨⟨R.size, R.defers, R.keep, R.sle, R.old, R.agr, fun i => (R.tmp i).mono L, fun b cs' hb' => ?_, fun k r hl => ?_, fun x y b hx hy => ?_, fun i hi => ?_⟩, L⟩
 ·obtain ⟨h', vs', T', e1, k, hh', hc', hs'⟩ := R.box b cs' hb'
  exact ⟨h', vs', T', e1, k, hh', hc'.imp fun _ _ x => x.mono L, hs'⟩
 ·simp only [upd] at hl
  split at hl
  ·rename_i he; subst he; cases hl
   exact ⟨v, by simp [upd], ⟨hsz, hb0⟩, fun _ => ⟨vs, hown, hp, hs⟩, (fun h => by cases h)⟩
  ·rename_i he
   obtain ⟨v', e1, r⟩ := R.row k r hl
   exact ⟨v', by simp [upd, he, e1], r⟩
 ·rcases own x b hx with ⟨rfl, hx'⟩ | ⟨hx1, hx2⟩ <;> rcases own y b hy with ⟨rfl, hy'⟩ | ⟨hy1, hy2⟩
  ·rfl
  ·exact absurd hy2 (hu b hx' y)
  ·exact absurd hx2 (hu b hy' x)
  ·exact R.inj x y b hx2 hy2
 ·obtain ⟨h1, h2⟩ := R.free i hi.1
  exact ⟨h1, by simp [upd, hi.2, h2]⟩
def Snap.blk (S : Snap) (h : Nat) (xs : List Value) : Snap := fun b o => if b = h then xs[o]? else S b o
theorem Snap.blk_le {S : Snap} {h : Nat} {xs : List Value} (hx : ∀ o, S h o = Option.none) : SLe S (S.blk h xs) := fun b o v e => by
 unfold Snap.blk
 split
 ·rename_i k; subst k; rw [hx o] at e; cases e
 ·exact e
theorem Agr.blk {S : Snap} (hA : Agr S w) {h : Nat} {cur : Array Value} {T : TypeId} (hh : w.heap[h]? = some (.cells cur T (0, 0))) : Agr (S.blk h cur.toList) w := by
 have hc : ∀ o, w.cell? ⟨h, o, Option.none⟩ = cur.toList[o]? := fun o => by rw [cell_of_row w h o cur T (0, 0) hh, ← Array.getElem?_toList]
 refine ⟨fun b o v e => ?_, fun b o v o' v' e e' => ?_⟩
 ·unfold Snap.blk at e
  split at e
  ·rename_i k; subst k; rw [hc]; exact e
  ·exact hA.1 b o v e
 ·unfold Snap.blk at e ⊢
  split at e
  ·rename_i k; subst k; rw [if_pos rfl, ← hc]; exact e'
  ·rename_i k; rw [if_neg k]; exact hA.2 b o v o' v' e e'
theorem cells_of {S : Snap} {h : Nat} : ∀ {cs : List AV} {vs : List Value} {o : Nat}, All2 (Pur S) cs vs → (∀ j u, vs[j]? = some u → S h (o + j) = some u) → Cells S h o cs
 | _, _, _, .nil, _ => .nil
 | _, _, o, .cons p r, hs => .cons (hs 0 _ rfl) p (cells_of r fun j u hj => by rw [show o + 1 + j = o + (j + 1) by omega]; exact hs (j + 1) u (by simpa using hj))
theorem Rel.shut1 (R : Rel c fr g st a w) {k : Nat} {r : GR} (hk : st.gr k = some r) : ∃ g', g.Le g' ∧ g'.ι = g.ι ∧ g'.τ = g.τ ∧ Rel c fr g' { st with gr := upd st.gr k (some { r with live := false }) } a w := by
 have sub : ∀ j x, upd st.gr k (some { r with live := false }) j = some x → x.live = true → st.gr j = some x := fun j x h hl => by
  unfold upd at h
  split at h
  ·cases h; cases hl
  ·exact h
 have own : ∀ x b, Owns { st with gr := upd st.gr k (some { r with live := false }) } g x b → Owns st g x b := fun x b => by
  obtain ⟨t, i⟩ := x
  cases t with
  | true => exact id
  | false =>
   rintro ⟨⟨x, h1, h2⟩, q⟩
   exact ⟨⟨x, sub _ _ h1 h2, h2⟩, q⟩
 obtain ⟨v, e1, e2, e3, e4⟩ := R.row k r hk
 have fin : ∀ g' : Gh, g.Le g' → g'.ι = g.ι → g'.τ = g.τ → Rel c fr g' st a w ∨ (Rel c fr g' { st with gr := killT st.gr (some k) } a w) → Pur g'.S (.row r.xs) v → Rel c fr g' { st with gr := upd st.gr k (some { r with live := false }) } a w := fun g' L hι hτ R' hp => by
  have hrow : ∀ j x, j ≠ k → st.gr j = some x → ∃ v, g'.τ j = some v ∧ ((∀ c ∈ x.xs, c.length = x.sz) ∧ Base0 v) ∧
    (x.live = true → ∃ vs, w.ownsRow c.w0.heap.size x.e x.sz v x.xs.length vs ∧ All2 (Pur g'.S) x.xs.flatten vs ∧ ∀ h, v.ownBlock = some h → ∀ o, g'.S h o = Option.none) ∧ (x.live = false → Pur g'.S (.row x.xs) v) := fun j x hj hx => by
   rcases R' with R' | R'
   ·exact R'.row j x hx
   ·exact R'.row j x (by show upd st.gr k Option.none j = some x; unfold upd; rw [if_neg hj]; exact hx)
  have base : ∃ st' : AS, Rel c fr g' st' a w ∧ st'.t = st.t ∧ st'.bx = st.bx := R'.elim (fun h => ⟨st, h, rfl, rfl⟩) fun h => ⟨_, h, rfl, rfl⟩
  obtain ⟨st', Rb, ht, hb⟩ := base
  refine ⟨Rb.size, Rb.defers, Rb.keep, Rb.sle, Rb.old, Rb.agr, fun i => by rw [← ht]; exact Rb.tmp i, fun b cs h => Rb.box b cs (by rw [hb]; exact h), fun j x hj => ?_, fun x y b hx hy => ?_, Rb.free⟩
  ·simp only [upd] at hj
   split at hj
   ·rename_i he; subst he; cases hj
    exact ⟨v, by rw [hτ]; exact e1, e2, (fun h => by cases h), fun _ => hp⟩
   ·rename_i he; exact hrow j x he hj
  ·have conv : ∀ x b, Owns { st with gr := upd st.gr k (some { r with live := false }) } g' x b → Owns st g x b := fun x b ho => own x b (by
    obtain ⟨t, i⟩ := x
    cases t with
    | true => exact ⟨ho.1, by rw [← hι]; exact ho.2⟩
    | false => exact ⟨ho.1, by rw [← hτ]; exact ho.2⟩)
   exact R.inj x y b (conv x b hx) (conv y b hy)
 cases hl : r.live with
 | false => exact ⟨g, .refl g, rfl, rfl, fin g (.refl g) rfl rfl (.inl R) (e4 hl)⟩
 | true =>
  obtain ⟨vs, hown, hp, hS⟩ := e3 hl
  rcases hown.2 with ⟨q1, q2⟩ | ⟨h, cap, cur, q, hb, hh, r1, r2, r3, r4⟩
  ·have hx : r.xs = [] := List.eq_nil_of_length_eq_zero q2
   exact ⟨g, .refl g, rfl, rfl, fin g (.refl g) rfl rfl (.inl R) (by rw [hx, q1]; exact .nil)⟩
  ·subst q
   have hob : Value.ownBlock (.slice (some ⟨h, 0, Option.none⟩) r.xs.length cap) = some h := rfl
   have hle : SLe g.S (g.S.blk h cur.toList) := Snap.blk_le fun o => hS h hob o
   have L : g.Le { g with S := g.S.blk h cur.toList } := ⟨hle, fun _ _ e => e, fun _ _ e => e⟩
   have hno : ∀ x, ¬ Owns { st with gr := killT st.gr (some k) } g x h := fun x hx => by
    have hx' : Owns st g x h := by
     obtain ⟨t, i⟩ := x
     cases t with
     | true => exact hx
     | false =>
      obtain ⟨⟨y, h1, h2⟩, q⟩ := hx
      refine ⟨⟨y, ?_, h2⟩, q⟩
      simp only [killT, upd] at h1
      split at h1
      ·cases h1
      ·exact h1
    have := R.inj x (false, k) h hx' ⟨⟨r, hk, hl⟩, _, e1, hob⟩
    subst this
    obtain ⟨⟨y, h1, _⟩, _⟩ := hx
    simp [killT, upd] at h1
   have R1 := (R.kill (some k)).ext (S' := g.S.blk h cur.toList) hle (R.agr.blk hh) fun b o hne => by
    unfold Snap.blk at hne
    split at hne
    ·rename_i hbh; subst hbh; exact ⟨hb, hno⟩
    ·exact absurd rfl hne
   refine ⟨{ g with S := g.S.blk h cur.toList }, L, rfl, rfl, fin _ L rfl rfl (.inr R1) ?_⟩
   have hcl : Cells (g.S.blk h cur.toList) h 0 r.xs.flatten := cells_of (hp.imp fun _ _ p => p.mono hle) fun j u hj => by
    unfold Snap.blk
    rw [if_pos rfl, Nat.zero_add]
    rw [← r4, List.getElem?_take] at hj
    split at hj
    ·exact hj
    ·cases hj
   exact .row r.sz e2.1 (Rows.of_flat hcl) rfl r1
theorem shut_one {gr : Gr} {k : Nat} {ks : List Nat} : shut gr (k :: ks) = shut (match gr k with | some r => upd gr k (some r.shut) | none => gr) ks := by
 funext j
 unfold shut
 by_cases hj : j = k
 ·subst hj
  cases hk : gr j with
  | none => simp [hk]
  | some r => simp [upd, GR.shut]
 ·cases hk : gr k with
  | none => simp [hj]
  | some r => simp [upd, hj]
theorem Rel.shuts : ∀ (ks : List Nat) {g : Gh} {st : AS}, Rel c fr g st a w → ∃ g', g.Le g' ∧ g'.ι = g.ι ∧ g'.τ = g.τ ∧ Rel c fr g' { st with gr := Go.Proofs.YthdkjfhpbigdpaaDoor.Ev.shut st.gr ks } a w
 | [], g, st, R => ⟨g, .refl g, rfl, rfl, by rw [show Go.Proofs.YthdkjfhpbigdpaaDoor.Ev.shut st.gr [] = st.gr from funext fun k => if_neg (by simp)]; exact R⟩
 | k :: ks, g, st, R => by
  rw [shut_one]
  cases hk : st.gr k with
  | none => exact R.shuts ks
  | some r =>
   obtain ⟨g1, L1, i1, t1, R1⟩ := R.shut1 hk
   obtain ⟨g2, L2, i2, t2, R2⟩ := R1.shuts ks
   exact ⟨g2, ⟨L1.S.trans L2.S, fun b h e => L2.ι _ _ (L1.ι _ _ e), fun b h e => L2.τ _ _ (L1.τ _ _ e)⟩, i2.trans i1, t2.trans t1, R2⟩
end
end Go.Proofs.YthdkjfhpbigdpaaDoor.Ev

namespace Go.Proofs.YthdkjfhpbigdpaaDoor.Ev
open Go Go.RowKit
set_option linter.unusedSimpArgs false
set_option linter.unusedVariables false

def g0 (S : Snap) : Gh := ⟨S, fun _ => none, fun _ => none⟩
def Post (S : Snap) (w : World) : AOut → Ending → World → Prop
 | .ret v, .returned x, w' => ∃ S', SLe S S' ∧ (∀ b o, b < w.heap.size → S' b o = S b o) ∧ Agr S' w' ∧ Below w.heap.size w w' ∧ Rep (g0 S') v x
 | .pan v, .panicked ch, w' => ∃ x, ch = [{ v := x, recovered := false }] ∧ v = .s x ∧ Below w.heap.size w w'
 | _, _, _ => False
def Ok (P : Program) (J : World → Prop) (E : Env) : Prop :=
 ∀ f args out, E f args out → ∀ S w vs, J w → Agr S w → All2 (Rep (g0 S)) args vs → Calls P f vs.toArray w (Post S w out)

theorem Rel.weak {c : Cx} {fr fr' : Nat → Prop} {g : Gh} {st : AS} {a : Act} {w : World} (R : Rel c fr g st a w) (h : ∀ i, fr' i → fr i) : Rel c fr' g st a w :=
 ⟨R.size, R.defers, R.keep, R.sle, R.old, R.agr, R.tmp, R.box, R.row, R.inj, fun i hi => R.free i (h i hi)⟩
theorem g0_le {S : Snap} {g : Gh} (h : SLe S g.S) : (g0 S).Le g := ⟨h, fun _ _ e => by simp [g0] at e, fun _ _ e => by simp [g0] at e⟩
def Shut (gr : Gr) (ks : List Nat) : Prop := ∀ k ∈ ks, ∀ r, gr k = some r → r.live = false
section
variable {c : Cx} {fr : Nat → Prop} {g : Gh} {st : AS} {a : Act} {w : World}
theorem pcell_pur (R : Rel c fr g st a w) {x : AV} {v : Value} (h : Cel g x v) (hs : Shut st.gr (refC x)) : Pur g.S (pcell st.gr x) v := by
 unfold pcell
 split
 ·cases h with | pur p => cases p; exact .nil
 ·cases h with | pur p => cases p with | s h1 => exact .s h1
 ·cases h with | pur p => exact p
 ·rename_i k
  split
  ·rename_i r hr
   obtain ⟨v', e1, _, _, e4⟩ := R.row k r hr
   cases h with
   | pur p => cases p
   | ref e _ => rw [e] at e1; cases e1; exact e4 (hs k (by simp [refC]) r hr)
  ·exact .any h.one
 ·exact .any h.one
theorem pcell_rep (R : Rel c fr g st a w) {x : AV} {v : Value} (h : Cel g x v) (hs : Shut st.gr (refC x)) : Cel (g0 g.S) (pcell st.gr x) v := .pur (pcell_pur R h hs)
theorem strip_com (R : Rel c fr g st a w) {x : AV} {v : Value} (h : Com g x v) (hs : Shut st.gr (refs x)) : Com (g0 g.S) (strip st.gr x) v := by
 cases h with
 | cel cl =>
  have : (strip st.gr x = pcell st.gr x ∧ refs x = refC x) ∨ ∃ cs, x = .agg cs ∨ x = .tup cs := by cases x <;> simp [strip, refs]
  rcases this with ⟨h, h'⟩ | ⟨cs, rfl|rfl⟩
  ·rw [h]; rw [h'] at hs; exact .cel (pcell_rep R cl hs)
  ·cases cl with | pur p => cases p
  ·cases cl with | pur p => cases p
 | agg cs =>
  simp only [strip]
  refine .agg ?_
  have : ∀ {l : List AV} {vs : List Value}, All2 (Cel g) l vs → (∀ y ∈ l, Shut st.gr (refC y)) → All2 (Cel (g0 g.S)) (l.map (pcell st.gr)) vs := fun h => by
   induction h with
   | nil => intro _; exact .nil
   | cons h _ ih => intro hs; exact .cons (pcell_rep R h (hs _ (List.mem_cons_self ..))) (ih fun y hy => hs y (List.mem_cons_of_mem _ hy))
  exact this cs fun y hy k hk => hs k (List.mem_flatMap.2 ⟨y, hy, hk⟩)
theorem strip_rep (R : Rel c fr g st a w) {x : AV} {v : Value} (h : Rep g x v) (hs : Shut st.gr (refs x)) : Rep (g0 g.S) (strip st.gr x) v := by
 cases h with
 | com cm => exact .com (strip_com R cm hs)
 | tup cs => exact .any
 | any =>
  simp only [strip, pcell]
  exact .any
theorem args_rep (R : Rel c fr g st a w) : ∀ {xs : List Operand}, oAll xs = true → Shut st.gr ((xs.map st.ev).flatMap refs) → All2 (Rep (g0 g.S)) (xs.map fun x => strip st.gr (st.ev x)) (xs.map a.eval)
 | [], _, _ => .nil
 | x :: xs, h, hs => by
  simp only [oAll, List.all_cons, Bool.and_eq_true] at h
  exact .cons (strip_rep R (R.ev x h.1) fun k hk => hs k (by simp [hk])) (args_rep R h.2 fun k hk => hs k (by simp only [List.map_cons, List.flatMap_cons]; exact List.mem_append_right _ hk))
theorem pcell_cells {gr : Gr} {x : AV} {cs : List AV} (h : cellsA (pcell gr x) = some cs) : cs = [pcell gr x] := by
 unfold pcell at h ⊢
 split at h <;> (try split at h) <;> simp_all [cellsA]
theorem strip_cells (R : Rel c fr g st a w) {x : AV} {v : Value} {cs : List AV} (h : Rep g x v) (hs : Shut st.gr (refs x)) (k : cellsA (strip st.gr x) = some cs) : All2 (Pur g.S) cs v.cells.toList := by
 have one : ∀ {b : AV} {v : Value}, Pur g.S b v → All2 (Pur g.S) [b] v.cells.toList := fun {b v} p => by
  have h1 := p.one
  cases v <;> first|(simp [Value.oneCell'] at h1; done)|exact .cons p .nil
 cases h with
 | com cm => cases cm with
  | cel cl =>
   have : strip st.gr x = pcell st.gr x ∧ refs x = refC x := by
    cases x <;> simp only [strip, refs, and_self]
    ·cases cl with | pur p => cases p
    ·cases cl with | pur p => cases p
   rw [this.1] at k
   rw [this.2] at hs
   rw [pcell_cells k]
   exact one (pcell_pur R cl hs)
  | agg cl =>
   simp only [strip, cellsA, Option.some.injEq] at k
   subst k
   have : ∀ {l : List AV} {vs : List Value}, All2 (Cel g) l vs → (∀ y ∈ l, Shut st.gr (refC y)) → All2 (Pur g.S) (l.map (pcell st.gr)) vs := fun h => by
    induction h with
    | nil => intro _; exact .nil
    | cons h _ ih => intro hs; exact .cons (pcell_pur R h (hs _ (List.mem_cons_self ..))) (ih fun y hy => hs y (List.mem_cons_of_mem _ hy))
   simpa [Value.cells] using this cl fun y hy k hk => hs k (List.mem_flatMap.2 ⟨y, hy, hk⟩)
 | tup _ => simp [strip, cellsA] at k
 | any => simp [strip, pcell, cellsA] at k
theorem shut_xs {gr : Gr} (ks : List Nat) (k : Nat) : ((shut gr ks) k).map (·.xs) = (gr k).map (·.xs) ∧ ∀ r, (shut gr ks) k = some r → (k ∈ ks → r.live = false) := by
 unfold shut
 by_cases hk : k ∈ ks
 ·rw [if_pos hk]
  refine ⟨by cases gr k <;> rfl, fun r hr _ => ?_⟩
  cases h : gr k with
  | none => rw [h] at hr; cases hr
  | some x => rw [h] at hr; cases hr; rfl
 ·rw [if_neg hk]; exact ⟨rfl, fun _ _ h => absurd h hk⟩
theorem shut_shut {gr : Gr} {ks : List Nat} : Shut (shut gr ks) ks := fun k hk r hr => (shut_xs ks k).2 r hr hk
theorem pcell_shut {gr : Gr} {ks : List Nat} {x : AV} : pcell (shut gr ks) x = pcell gr x := by
 cases x <;> try rfl
 case s x => cases x <;> first|rfl | (rename_i p n m; cases p <;> cases n <;> cases m <;> rfl)
 case ref k =>
  have := (shut_xs (gr := gr) ks k).1
  simp only [pcell]
  revert this
  cases shut gr ks k <;> cases gr k <;> simp
theorem strip_shut {gr : Gr} {ks : List Nat} {x : AV} : strip (shut gr ks) x = strip gr x := by
 cases x <;> simp only [strip, pcell_shut]
 rw [show pcell (shut gr ks) = pcell gr from funext fun _ => pcell_shut]
end
end Go.Proofs.YthdkjfhpbigdpaaDoor.Ev

namespace Go.Proofs.YthdkjfhpbigdpaaDoor.Ev
open Go Go.RowKit
set_option linter.unusedSimpArgs false
set_option linter.unusedVariables false

section
variable {P : Program} {c : Cx} {fr : Nat → Prop} {g : Gh} {st : AS} {a : Act} {w : World}
def After (c : Cx) (fr : Nat → Prop) (id : Nat) (st' : AS) (a : Act) (w : World) : Prop := ∃ g', Rel c (fun i => fr i ∧ i ≠ id) g' st' a w
theorem after_pure (R : Rel c fr g st a w) {id : Nat} {d : Option Nat} {av : AV} {v : Value} (hd : ∀ i, d = some i → i < c.n) (r : Rep g av v) : After c fr id (st.put d av) (a.put d v) w :=
 ⟨g, (R.put hd r).weak fun i h => h.1⟩

theorem undef_rep {g : Gh} : Rep g (.tup []) undef := Rep.tup (vs := []) .nil
theorem Rel.alloc (R : Rel c fr g st a w) (o : Obj) : Rel c fr g st a (w.alloc o) := R.step ((Below.refl _ _).alloc (Nat.le_refl _) o)
theorem after_box (R : Rel c fr g st a w) {id : Nat} {d : Option Nat} {cs : List AV} {vs : Array Value} {T : TypeId} (hf : fr id) (hd : ∀ i, d = some i → i < c.n) (hc : All2 (Cel g) cs vs.toList) :
  After c fr id ({ st with bx := upd st.bx id (some cs) }.put d (.ptr id 0)) (a.put d (.pointer (some ⟨w.heap.size, 0, none⟩))) (w.alloc (.cells vs T)) := by
 obtain ⟨R', L⟩ := (R.alloc (.cells vs T)).addBox hf R.keep.size (heap_alloc_new w _) (R.unowned (Nat.le_refl _)) (R.none (Nat.le_refl _)) hc
 exact ⟨_, R'.put hd (.com (.cel (.ptr (by simp [upd]))))⟩
theorem agr_other {S : Snap} {w w' : World} {h : Nat} (hA : Agr S w) (hs : ∀ o, S h o = none) (oth : ∀ k, k ≠ h → w'.heap[k]? = w.heap[k]?) : Agr S w' := by
 have ne : ∀ {b o v}, S b o = some v → b ≠ h := fun e he => by subst he; rw [hs] at e; cases e
 refine ⟨fun b o v e => ?_, fun b o v o' v' e e' => ?_⟩
 ·rw [World.cell?_of_block (w := w) (oth b (ne e))]; exact hA.1 b o v e
 ·rw [World.cell?_of_block (w := w) (oth b (ne e))] at e'; exact hA.2 b o v o' v' e e'
theorem after_store (R : Rel c fr g st a w) {id b h o : Nat} {d : Option Nat} {cs new : List AV} {vs : Array Value} {T : TypeId} {nv : List Value} (hd : ∀ i, d = some i → i < c.n) (hb : st.bx b = some cs) (hi : g.ι b = some h)
  (hh : w.heap[h]? = some (.cells vs T (0, 0))) (hc : All2 (Cel g) cs vs.toList) (hn : All2 (Cel g) new nv) (hlt : c.w0.heap.size ≤ h ∨ h ∈ c.gs) (hs : ∀ o, g.S h o = none) :
  After c fr id ({ st with bx := upd st.bx b (some (put1 cs o new)) }.put d (.tup [])) (a.put d undef) (w.setRow h (vs.toList.take o ++ nv ++ vs.toList.drop (o + nv.length)).toArray) := by
 have oth : ∀ k, k ≠ h → (w.setRow h (vs.toList.take o ++ nv ++ vs.toList.drop (o + nv.length)).toArray).heap[k]? = w.heap[k]? := fun k hk => setRow_other w h k _ hk
 have own : ∀ x k, Owns { st with bx := upd st.bx b (some (put1 cs o new)) } g x k → Owns st g x k := fun x k => by
  obtain ⟨t, i⟩ := x
  cases t with
  | true =>
   rintro ⟨h1, h2⟩
   refine ⟨?_, h2⟩
   simp only [upd] at h1
   split at h1
   ·rename_i he; subst he; simp [hb]
   ·exact h1
  | false => exact fun x => x
 have hne : ∀ x k, Owns st g x k → x ≠ (true, b) → k ≠ h := fun x k hx hxb hk => hxb (R.inj x (true, b) h (hk ▸ hx) ⟨by simp [hb], hi⟩)
 refine ⟨g, (Rel.put (st := { st with bx := upd st.bx b (some (put1 cs o new)) }) ⟨R.size, R.defers, R.keep.trans ⟨by simp, by simp, by simp, by simp, fun k hk hg => oth k ?_⟩, R.sle, R.old, agr_other R.agr hs oth, R.tmp, fun b' cs' hb' => ?_, fun k r hl => ?_, fun x y k hx hy => R.inj x y k (own x k hx) (own y k hy), fun i h => R.free i h.1⟩ hd undef_rep)⟩
 ·rcases hlt with hlt | hlt
  ·omega
  ·exact fun he => hg (he ▸ hlt)
 ·simp only [upd] at hb'
  split at hb'
  ·rename_i he; subst he; cases hb'
   exact ⟨h, _, T, hi, hlt, setRow_heap w h vs _ T (0, 0) hh, by simpa using hc.put hn o, hs⟩
  ·rename_i he
   obtain ⟨h', vs', T', e1, k1, hh', hc', hs'⟩ := R.box b' cs' hb'
   exact ⟨h', vs', T', e1, k1, by rw [oth h' (hne (true, b') h' ⟨by simp [hb'], e1⟩ (by simp [he]))]; exact hh', hc', hs'⟩
 ·obtain ⟨v, e1, e2, e3, e4⟩ := R.row k r hl
  refine ⟨v, e1, e2, fun hv => ?_, e4⟩
  obtain ⟨vs', hown, q⟩ := e3 hv
  refine ⟨vs', ⟨hown.1, ?_⟩, q⟩
  rcases hown.2 with h' | ⟨h', cap, cur, hv', hb'', hh', r'⟩
  ·exact .inl h'
  ·exact .inr ⟨h', cap, cur, hv', hb'', by rw [oth h' (hne (false, k) h' ⟨⟨r, hl, hv⟩, v, e1, by rw [hv']; rfl⟩ (by simp))]; exact hh', r'⟩
theorem after_row (R : Rel c fr g st a w) {id e sz n : Nat} {d : Option Nat} {v : Value} {vs : List Value} {xs : List (List AV)} (hf : fr id) (hd : ∀ i, d = some i → i < c.n)
  (hown : w.ownsRow c.w0.heap.size e sz v n vs) (hu : ∀ h, v.ownBlock = some h → ∀ x, ¬ Owns st g x h) (hS : ∀ h, v.ownBlock = some h → ∀ o, g.S h o = none)
  (hn : xs.length = n) (hsz : ∀ c ∈ xs, c.length = sz) (hc : All2 (Pur g.S) xs.flatten vs) :
  After c fr id ({ st with gr := upd st.gr id (some ⟨e, sz, xs, true⟩) }.put d (.ref id)) (a.put d v) w := by
 subst hn
 obtain ⟨R', L⟩ := R.addRow hf hown hsz hc hu hS
 have h1 : v.oneCell' = true := by
  rcases hown.2 with ⟨q, _⟩ | ⟨h, cap, cur, q, _⟩ <;> rw [q] <;> rfl
 exact ⟨_, R'.put hd (rep_cel (.ref (by simp [upd]) h1))⟩
end
end Go.Proofs.YthdkjfhpbigdpaaDoor.Ev

namespace Go.Proofs.YthdkjfhpbigdpaaDoor.Ev
open Go Go.RowKit
set_option linter.unusedSimpArgs false
set_option linter.unusedVariables false

theorem wp_of_run {P : Program} {o : Oper} {a : Act} {w w' : World} {v : Value} {K : Act → World → Prop} {Q : Exit → Act → World → Prop} (h : (execOp a.eval o).run P w = .ok (.value v) w') (k : K (a.put o.dst v) w') : o.wp P a w K Q := by
 unfold Oper.wp; rw [h]; exact k
section
variable {P : Program} {c : Cx} {fr : Nat → Prop} {g : Gh} {st : AS} {a : Act} {w : World} {dst : Option Tmp} {type : TypeId} {pos : String} {after : Array Edge} {guard : Option (Nat × Bool)}
 {id : Nat} {K : AS → Prop} {Q : Exit → Act → World → Prop}
def Goes (c : Cx) (fr : Nat → Prop) (id : Nat) (K : AS → Prop) (a : Act) (w : World) : Prop := ∃ st', K st' ∧ After c fr id st' a w

theorem op_box (R : Rel c fr g st a w) (hf : fr id) (hd : ∀ i, dst = some i → i < c.n) {t : TypeId} {x : Operand} (hx : oOk x = true) {cs : List AV} (hc : cellsA (st.ev x) = some cs)
  (k : K ({ st with bx := upd st.bx id (some cs) }.put dst (.ptr id 0))) : Oper.wp P ⟨dst, .box t x, type, pos, after, guard⟩ a w (Goes c fr id K) Q := by
 refine wp_of_run (v := .pointer (some ⟨w.heap.size, 0, none⟩)) (w' := w.alloc (.cells (a.eval x).cells t)) ?_ ⟨_, k, after_box R hf hd (cellsA_rep (R.ev x hx) hc)⟩
 simp [execOp, Instr.box, newVar, newRow]
theorem op_alloc (R : Rel c fr g st a w) (hf : fr id) (hd : ∀ i, dst = some i → i < c.n) {t : TypeId} {z : List Value} (hz : zeroOf P t = some z)
  (k : K ({ st with bx := upd st.bx id (some (z.map .s)) }.put dst (.ptr id 0))) : Oper.wp P ⟨dst, .alloc t, type, pos, after, guard⟩ a w (Goes c fr id K) Q := by
 obtain ⟨v, hv, rfl, hall⟩ := run_zero hz w
 refine wp_of_run (v := .pointer (some ⟨w.heap.size, 0, none⟩)) (w' := w.alloc (.cells v.cells t)) ?_ ⟨_, k, after_box R hf hd (all2_s _ hall)⟩
 simp [execOp, Instr.alloc, hv, newVar, newRow]
theorem op_st (R : Rel c fr g st a w) (hd : ∀ i, dst = some i → i < c.n) {t : TypeId} {p x : Operand} {n : Nat} (hs : szOf P t = some n) (hx : oAll [p, x] = true) {b o : Nat} {cs new : List AV} (hp : st.ev p = .ptr b o)
  (hb : st.bx b = some cs) (hn : cellsA (st.ev x) = some new) (hl : new.length = n) (hle : o + n ≤ cs.length)
  (k : K ({ st with bx := upd st.bx b (some (put1 cs o new)) }.put dst (.tup []))) : Oper.wp P ⟨dst, .store t p x, type, pos, after, guard⟩ a w (Goes c fr id K) Q := by
 have ho := oAll_mem hx
 obtain ⟨h, vs, T, hi, hlt, hh, hc, hS⟩ := R.box b cs hb
 have rp := R.ev p (ho p (by simp))
 rw [hp] at rp
 have hev : a.eval p = .pointer (some ⟨h, o, none⟩) := by
  generalize hv : a.eval p = v at rp
  cases Cel.conv rp (by simp) (by simp) (by simp) with
  | pur q => cases q
  | ptr hi' => rw [hi] at hi'; cases hi'; rfl
 have hnew := cellsA_rep (R.ev x (ho x (by simp))) hn
 have hone : ∀ v ∈ (a.eval x).cells.toList, v.oneCell' = true := by
  have : ∀ {la : List AV} {bs : List Value}, All2 (Cel g) la bs → ∀ v ∈ bs, v.oneCell' = true := fun h => by
   induction h with
   | nil => simp
   | cons h _ ih => exact fun v hv => (List.mem_cons.1 hv).elim (fun e => e ▸ h.one) (ih v)
  exact this hnew
 have hlen : (a.eval x).cells.toList.length = n := by rw [← hnew.length]; exact hl
 have hsc : (a.eval x).cells.size = n := by simpa using hlen
 have hcl := hc.length
 have hst := run_storeCells_at P h o T (a.eval x).cells.toList 0 vs w hh (by simp only [Array.length_toList] at hcl hlen ⊢; omega) hone
 simp only [Nat.add_zero] at hst
 have hr : (execOp a.eval (⟨dst, .store t p x, type, pos, after, guard⟩ : Oper)).run P w = .ok .skip (w.setRow h (vs.toList.take o ++ (a.eval x).cells.toList ++ vs.toList.drop (o + (a.eval x).cells.toList.length)).toArray) := by
  simp only [execOp, hev, Instr.storeAt, Instr.sureAddr, storeVar, Sem.run_bind, Sem.run_pure, Result.andThen_ok, run_sizeOf hs, hsc]
  simp [hst, hlen]
 unfold Oper.wp
 rw [hr]
 exact ⟨_, k, after_store R hd hb hi hh hc hnew hlt hS⟩
theorem Rel.reRow {k : Nat} (R : Rel c fr g { st with gr := killT st.gr (some k) } a w) {e sz : Nat} {v : Value} {xs : List (List AV)} {vs : List Value} (hτ : g.τ k = some v) (hown : w.ownsRow c.w0.heap.size e sz v xs.length vs) (hsz : ∀ c ∈ xs, c.length = sz)
  (hp : All2 (Pur g.S) xs.flatten vs) (hu : ∀ h, v.ownBlock = some h → ∀ x, ¬ Owns { st with gr := killT st.gr (some k) } g x h) (hs : ∀ h, v.ownBlock = some h → ∀ o, g.S h o = Option.none) :
  Rel c fr g { st with gr := upd st.gr k (some ⟨e, sz, xs, true⟩) } a w := by
 have hb0 : Base0 v := by
  rcases hown.2 with ⟨q, _⟩ | ⟨h, cap, cur, q, _⟩
  ·exact .inl q
  ·exact .inr ⟨h, _, cap, q⟩
 have own : ∀ x b, Owns { st with gr := upd st.gr k (some ⟨e, sz, xs, true⟩) } g x b → (x = (false, k) ∧ v.ownBlock = some b) ∨ Owns { st with gr := killT st.gr (some k) } g x b := fun x b => by
  obtain ⟨t, i⟩ := x
  cases t with
  | false =>
   rintro ⟨⟨r, h1, hl⟩, v', h2, h3⟩
   by_cases hi : i = k
   ·subst hi; rw [hτ] at h2; cases h2; exact .inl ⟨rfl, h3⟩
   ·exact .inr ⟨⟨r, by simp only [upd, hi, if_false] at h1; show upd st.gr k Option.none i = some r; unfold upd; rw [if_neg hi]; exact h1, hl⟩, v', h2, h3⟩
  | true => exact fun k => .inr k
 refine ⟨R.size, R.defers, R.keep, R.sle, R.old, R.agr, R.tmp, R.box, fun j r hl => ?_, fun x y b hx hy => ?_, R.free⟩
 ·simp only [upd] at hl
  split at hl
  ·rename_i he; subst he; cases hl
   exact ⟨v, hτ, ⟨hsz, hb0⟩, fun _ => ⟨vs, hown, hp, hs⟩, (fun h => by cases h)⟩
  ·rename_i he
   exact R.row j r (by show upd st.gr k Option.none j = some r; unfold upd; rw [if_neg he]; exact hl)
 ·rcases own x b hx with ⟨rfl, hx'⟩ | hx2 <;> rcases own y b hy with ⟨rfl, hy'⟩ | hy2
  ·rfl
  ·exact absurd hy2 (hu b hx' y)
  ·exact absurd hx2 (hu b hy' x)
  ·exact R.inj x y b hx2 hy2
theorem flat_set {sz : Nat} (new : List AV) : ∀ (xs : List (List AV)) (i o : Nat) (cs : List AV), (∀ c ∈ xs, c.length = sz) → xs[i]? = some cs → o + new.length ≤ sz →
  (xs.set i (put1 cs o new)).flatten = xs.flatten.take (i * sz + o) ++ new ++ xs.flatten.drop (i * sz + o + new.length)
 | [], i, o, cs, _, h, _ => by simp at h
 | c :: xs, 0, o, cs, hk, h, hle => by
  simp at h; subst h
  have hc := hk c (List.mem_cons_self ..)
  simp only [List.set_cons_zero, List.flatten_cons, put1, Nat.zero_mul, Nat.zero_add]
  rw [List.take_append_of_le_length (by omega), List.drop_append_of_le_length (by omega)]
  simp [List.append_assoc]
 | c :: xs, i + 1, o, cs, hk, h, hle => by
  have hc := hk c (List.mem_cons_self ..)
  have ih := flat_set new xs i o cs (fun c hc => hk c (List.mem_cons_of_mem _ hc)) (by simpa using h) hle
  simp only [List.set_cons_succ, List.flatten_cons, ih]
  rw [show (i + 1) * sz + o = c.length + (i * sz + o) by rw [hc, Nat.add_mul]; omega, show c.length + (i * sz + o) + new.length = c.length + (i * sz + o + new.length) by omega,
   List.take_length_add_append, List.drop_length_add_append]
  simp [List.append_assoc]
theorem op_stR (R : Rel c fr g st a w) (hd : ∀ i, dst = some i → i < c.n) {t : TypeId} {p x : Operand} {n : Nat} (hs : szOf P t = some n) (hx : oAll [p, x] = true) {kk sz i o : Nat} {rr : GR} {cs new : List AV} (hp : st.ev p = .rptr kk sz i o)
  (hg : st.gr kk = some rr) (hlive : rr.live = true) (hsz : rr.sz = sz) (hcs : rr.xs[i]? = some cs) (hn : cellsA (strip st.gr (st.ev x)) = some new) (hrf : refs (st.ev x) = []) (hl : new.length = n) (hle : o + n ≤ cs.length)
  (k : K ({ st with gr := upd st.gr kk (some { rr with xs := rr.xs.set i (put1 cs o new) }) }.put dst (.tup []))) : Oper.wp P ⟨dst, .store t p x, type, pos, after, guard⟩ a w (Goes c fr id K) Q := by
 subst hsz
 have ho := oAll_mem hx
 obtain ⟨v, e1, ⟨e2, e2'⟩, e3, e4⟩ := R.row kk rr hg
 obtain ⟨vs, hown, hpv, hS⟩ := e3 hlive
 have rp := R.ev p (ho p (by simp))
 rw [hp] at rp
 generalize hv : a.eval p = pv at rp
 cases Cel.conv rp (by simp) (by simp) (by simp) with
 | pur q => cases q
 | rptr hτ =>
  rename_i h nn cap
  rw [hτ] at e1; cases e1
  rcases hown.2 with ⟨q, _⟩ | ⟨h', cap', cur, q, hb, hh, r1, r2, r3, r4⟩
  ·cases q
  ·cases q
   have hob : Value.ownBlock (.slice (some ⟨h, 0, none⟩) rr.xs.length cap) = some h := rfl
   have hnew := strip_cells R (R.ev x (ho x (by simp))) (fun k hk => by rw [hrf] at hk; cases hk) hn
   have hone : ∀ v ∈ (a.eval x).cells.toList, v.oneCell' = true := by
    have : ∀ {la : List AV} {bs : List Value}, All2 (Pur g.S) la bs → ∀ v ∈ bs, v.oneCell' = true := fun h => by
     induction h with
     | nil => simp
     | cons h _ ih => exact fun v hv => (List.mem_cons.1 hv).elim (fun e => e ▸ h.one) (ih v)
    exact this hnew
   have hlen : (a.eval x).cells.toList.length = n := by rw [← hnew.length]; exact hl
   have hsc : (a.eval x).cells.size = n := by simpa using hlen
   have hi : i < rr.xs.length := (List.getElem?_eq_some_iff.1 hcs).1
   have hcl : cs.length = rr.sz := e2 cs (List.mem_of_getElem? hcs)
   have hfl := flat_len rr.xs e2
   have hvl : vs.length = rr.xs.length * rr.sz := hown.1
   have hii : i * rr.sz + rr.sz ≤ rr.xs.length * rr.sz := by rw [← Nat.succ_mul]; exact Nat.mul_le_mul_right _ hi
   have hcap : rr.xs.length * rr.sz ≤ cur.size := by rw [r3]; exact Nat.mul_le_mul_right _ r1
   have hst := run_storeCells_at P h (i * rr.sz + o) rr.e (a.eval x).cells.toList 0 cur w hh (by simp only [Array.length_toList] at hlen ⊢; omega) hone
   simp only [Nat.add_zero] at hst
   have hr : (execOp a.eval (⟨dst, .store t p x, type, pos, after, guard⟩ : Oper)).run P w = .ok .skip (w.setRow h (cur.toList.take (i * rr.sz + o) ++ (a.eval x).cells.toList ++ cur.toList.drop (i * rr.sz + o + (a.eval x).cells.toList.length)).toArray) := by
    simp only [execOp, hv, Instr.storeAt, Instr.sureAddr, storeVar, Sem.run_bind, Sem.run_pure, Result.andThen_ok, run_sizeOf hs, hsc]
    simp [hst, hlen]
   unfold Oper.wp
   rw [hr]
   refine ⟨_, k, ?_⟩
   have oth : ∀ k, k ≠ h → (w.setRow h (cur.toList.take (i * rr.sz + o) ++ (a.eval x).cells.toList ++ cur.toList.drop (i * rr.sz + o + (a.eval x).cells.toList.length)).toArray).heap[k]? = w.heap[k]? := fun k hk => setRow_other w h k _ hk
   have R1 := R.kill (some kk)
   have hno : ∀ q, ¬ Owns { st with gr := killT st.gr (some kk) } g q h := fun q hq => by
    have hx' : Owns st g q h := by
     obtain ⟨t, j⟩ := q
     cases t with
     | true => exact hq
     | false =>
      obtain ⟨⟨y, h1, h2⟩, z⟩ := hq
      refine ⟨⟨y, ?_, h2⟩, z⟩
      simp only [killT, upd] at h1
      split at h1
      ·cases h1
      ·exact h1
    have := R.inj q (false, kk) h hx' ⟨⟨rr, hg, hlive⟩, _, hτ, hob⟩
    subst this
    obtain ⟨⟨y, h1, _⟩, _⟩ := hq
    simp [killT, upd] at h1
   have R2 := R1.world (w' := w.setRow h (cur.toList.take (i * rr.sz + o) ++ (a.eval x).cells.toList ++ cur.toList.drop (i * rr.sz + o + (a.eval x).cells.toList.length)).toArray) ⟨by simp, by simp, by simp, by simp, fun k hk _ => oth k (by omega)⟩ (agr_other R.agr (hS h hob) oth)
    fun q k hq => oth k (fun e => by subst e; exact hno q hq)
   have hset := flat_set new rr.xs i o cs e2 hcs (by omega)
   have hp' : All2 (Pur g.S) (rr.xs.set i (put1 cs o new)).flatten (vs.take (i * rr.sz + o) ++ (a.eval x).cells.toList ++ vs.drop (i * rr.sz + o + (a.eval x).cells.toList.length)) := by
    rw [hset, hnew.length]
    exact ((hpv.take _).append hnew).append (hpv.drop _)
   have hput : (put1 cs o new).length = rr.sz := by simp only [put1, List.length_append, List.length_take, List.length_drop]; omega
   have hown' : (w.setRow h (cur.toList.take (i * rr.sz + o) ++ (a.eval x).cells.toList ++ cur.toList.drop (i * rr.sz + o + (a.eval x).cells.toList.length)).toArray).ownsRow c.w0.heap.size rr.e rr.sz (.slice (some ⟨h, 0, none⟩) rr.xs.length cap) (rr.xs.set i (put1 cs o new)).length
     (vs.take (i * rr.sz + o) ++ (a.eval x).cells.toList ++ vs.drop (i * rr.sz + o + (a.eval x).cells.toList.length)) := by
    refine ⟨?_, .inr ⟨h, cap, _, by simp, hb, setRow_heap w h cur _ rr.e (0, 0) hh, by simpa using r1, r2, ?_, ?_⟩⟩
    ·simp only [List.length_append, List.length_take, List.length_drop, List.length_set]; omega
    ·simp only [List.size_toArray, List.length_append, List.length_take, List.length_drop, Array.length_toList]; omega
    ·simp only [List.length_set]
     rw [← r4]
     have hct : cur.toList.length = cur.size := by simp
     apply List.ext_getElem?
     intro j
     have hL := hlen
     rw [List.getElem?_take]
     by_cases hj : j < rr.xs.length * rr.sz
     ·rw [if_pos hj]
      by_cases h1 : j < i * rr.sz + o
      ·rw [List.append_assoc, List.getElem?_append_left (by simp; omega), List.getElem?_take_of_lt h1, List.append_assoc, List.getElem?_append_left (by simp; omega), List.getElem?_take_of_lt h1, List.getElem?_take_of_lt hj]
      ·by_cases h2 : j < i * rr.sz + o + (a.eval x).cells.toList.length
       ·rw [List.getElem?_append_left (by simp; omega), List.getElem?_append_right (by simp; omega), List.getElem?_append_left (by simp; omega), List.getElem?_append_right (by simp; omega)]
        congr 1; simp; omega
       ·rw [List.getElem?_append_right (by simp; omega), List.getElem?_drop, List.getElem?_append_right (by simp; omega), List.getElem?_drop, List.getElem?_take]
        rw [if_pos (by simp; omega)]
        congr 1; simp; omega
     ·rw [if_neg hj, List.getElem?_eq_none]
      simp only [List.length_append, List.length_take, List.length_drop]; omega
   have R3 := R2.reRow (e := rr.e) hτ hown' (fun c' hc' => by
    rcases List.mem_or_eq_of_mem_set hc' with h | h
    ·exact e2 c' h
    ·rw [h]; exact hput) hp' (fun h' hh' q hq => by cases hh'; exact hno q hq) (fun h' hh' o => hS h' hh' o)
   have hfin : ({ rr with xs := rr.xs.set i (put1 cs o new) } : GR) = ⟨rr.e, rr.sz, rr.xs.set i (put1 cs o new), true⟩ := by rw [← hlive]
   rw [hfin]
   exact ⟨g, (R3.put hd undef_rep).weak fun i hi => hi.1⟩
theorem elems_rep (R : Rel c fr g st a w) : ∀ {sz : Nat} {ps : List Operand} {xs : List (List AV)}, oAll ps = true → Shut st.gr ((ps.map st.ev).flatMap refs) → elemsOf st.gr sz (ps.map st.ev) = some xs →
  xs.length = ps.length ∧ (∀ c ∈ xs, c.length = sz) ∧ (∀ v ∈ ps.map a.eval, v.cells.size = sz) ∧ All2 (Pur g.S) xs.flatten ((ps.map a.eval).flatMap fun v => v.cells.toList)
 | sz, [], xs, _, _, h => by simp only [List.map_nil, elemsOf, Option.some.injEq] at h; subst h; exact ⟨rfl, by simp, by simp, .nil⟩
 | sz, x :: ps, xs, ho, hs, h => by
  simp only [oAll, List.all_cons, Bool.and_eq_true] at ho
  simp only [List.map_cons, elemsOf] at h
  split at h
  ·rename_i c0 l h1 h2
   split at h
   ·rename_i hl
    cases h
    obtain ⟨i1, i2, i3, i4⟩ := elems_rep R ho.2 (fun k hk => hs k (by simp only [List.map_cons, List.flatMap_cons]; exact List.mem_append_right _ hk)) h2
    have p := strip_cells R (R.ev x ho.1) (fun k hk => hs k (by simp only [List.map_cons, List.flatMap_cons]; exact List.mem_append_left _ hk)) h1
    refine ⟨by simp [i1], fun c hc => ?_, fun v hv => ?_, ?_⟩
    ·exact (List.mem_cons.1 hc).elim (fun e => e ▸ hl) (i2 c)
    ·rcases List.mem_cons.1 hv with rfl | hv
     ·rw [← Array.length_toList, ← p.length]; exact hl
     ·exact i3 v hv
    ·simpa using p.append i4
   ·cases h
  ·cases h
theorem elemsOf_shut {gr : Gr} {ks : List Nat} {sz : Nat} : ∀ {l : List AV}, elemsOf (shut gr ks) sz l = elemsOf gr sz l
 | [] => rfl
 | v :: r => by simp only [elemsOf, strip_shut, elemsOf_shut (l := r)]
theorem rowParts_spec : ∀ {k : Nat} {ps : List (Nat × Operand)} {l : List Operand}, rowParts k ps = some l → ps = (l.zipIdx k).map fun x => (x.2, x.1)
 | k, [], l, h => by simp only [rowParts, Option.some.injEq] at h; subst h; rfl
 | k, (i, x) :: r, l, h => by
  simp only [rowParts] at h
  split at h
  ·rename_i hi; subst hi
   simp only [Option.map_eq_some_iff] at h
   obtain ⟨l', h', rfl⟩ := h
   rw [rowParts_spec h']
   simp
  ·cases h
theorem zip_map (ρ : Operand → Value) : ∀ (l : List Operand) (k : Nat), ((l.zipIdx k).map fun x => (x.2, x.1)).map (fun (p : Nat × Operand) => (p.1, ρ p.2)) = ((l.map ρ).zipIdx k).map fun x => (x.2, x.1)
 | [], _ => rfl
 | x :: l, k => by simp [zip_map ρ l (k + 1)]
theorem op_bs (R0 : Rel c fr g st a w) (hf : fr id) (hd : ∀ i, dst = some i → i < c.n) {t e sz n : Nat} {ps : Array (Nat × Operand)} {l : List Operand} {z : List Value} (he : elemOf' P t = some e) (hs : szOf P e = some sz)
  (hz : zeroOf P e = some z) (hl : rowParts 0 ps.toList = some l) (ho : oAll l = true) (hn : l.length = n) (hzl : z.length = sz) (hpos : 0 < sz) (hsm : n * sz ≤ 2 ^ 24) {xs : List (List AV)} (hx0 : elemsOf st.gr sz (l.map st.ev) = some xs)
  (k : K ({ st with gr := upd (shut st.gr ((l.map st.ev).flatMap refs)) id (some ⟨e, sz, xs, true⟩) }.put dst (.ref id))) : Oper.wp P ⟨dst, .buildSlice t n ps, type, pos, after, guard⟩ a w (Goes c fr id K) Q := by
 obtain ⟨g1, L1, _, _, R⟩ := R0.shuts ((l.map st.ev).flatMap refs)
 have hev : ({ st with gr := shut st.gr ((l.map st.ev).flatMap refs) } : AS).ev = st.ev := by funext x; cases x <;> rfl
 have hx : elemsOf (shut st.gr ((l.map st.ev).flatMap refs)) sz (l.map ({ st with gr := shut st.gr ((l.map st.ev).flatMap refs) } : AS).ev) = some xs := by rw [elemsOf_shut, hev]; exact hx0
 have hsh : Shut (shut st.gr ((l.map st.ev).flatMap refs)) ((l.map ({ st with gr := shut st.gr ((l.map st.ev).flatMap refs) } : AS).ev).flatMap refs) := by rw [hev]; exact shut_shut
 have hu := elemOf_spec he
 obtain ⟨i, zv, hi, hiz, rfl, hall⟩ := zeroOf_spec hz
 have hisz : i.size = sz := by unfold szOf at hs; rw [hi] at hs; simpa using hs
 obtain ⟨x1, x2, x3, x4⟩ := elems_rep R ho hsh hx
 have hps := rowParts_spec hl
 have hargs : (ps.map fun (i, x) => (i, a.eval x)).toList = ((l.map a.eval).zipIdx 0).map fun x => (x.2, x.1) := by
  rw [Array.toList_map, hps]; exact zip_map a.eval l 0
 have hflen : ((l.map a.eval).flatMap fun v => v.cells.toList).length = n * sz := by
  rw [← x4.length, List.length_flatten]
  have : ∀ (xs : List (List AV)), (∀ c ∈ xs, c.length = sz) → (xs.map List.length).sum = xs.length * sz := fun xs h => by
   induction xs with
   | nil => simp
   | cons c xs ih => simp [h c (List.mem_cons_self ..), ih (fun c hc => h c (List.mem_cons_of_mem _ hc)), Nat.add_mul]; omega
  rw [this xs x2, x1, hn]
 have hr : (execOp a.eval (⟨dst, .buildSlice t n ps, type, pos, after, guard⟩ : Oper)).run P w = .ok (.value (.slice (some ⟨w.heap.size, 0, none⟩) n n)) (w.alloc (.cells ((l.map a.eval).flatMap fun v => v.cells.toList).toArray e)) := by
  have hrb : (Instr.buildSlice t n (ps.map fun (i, x) => (i, a.eval x))).run P w = .ok (.slice (some ⟨w.heap.size, 0, none⟩) n n) (w.alloc (.cells ((l.map a.eval).flatMap fun v => v.cells.toList).toArray e)) := by
   by_cases h0 : n = 0
   ·subst h0
    have hl0 : l = [] := List.eq_nil_of_length_eq_zero hn
    subst hl0
    have hp0 : ps = #[] := by
     have : ps.toList = [] := by rw [hps]; rfl
     simpa using this
    subst hp0
    simp [Instr.buildSlice, run_underlying hu, sizeOf, typeInfo, hi, Instr.fill, newRow, show Array.range 0 = #[] from rfl]
   ·refine run_buildSlice w t e n _ _ i zv hu hi hiz (by rw [hisz]; omega) (by rw [hisz]; exact Nat.ne_of_gt (Nat.mul_pos (by omega) hpos)) ?_
    rw [hargs, hisz]
    exact Great.fill_whole hpos _ _ x3 (by simp [hn])
  simp only [execOp, Sem.run_bind, hrb]
  rfl
 refine wp_of_run hr ⟨_, k, ?_⟩
 refine after_row (R.alloc _) hf hd (n := n) (vs := (l.map a.eval).flatMap fun v => v.cells.toList) ⟨hflen, .inr ⟨w.heap.size, n, _, rfl, R.keep.size, heap_alloc_new w _, Nat.le_refl _, ?_, by simp only [List.size_toArray]; exact hflen, ?_⟩⟩
  (fun h hh => ?_) (fun h hh o => ?_) (by rw [x1, hn]) x2 x4
 ·have : n ≤ n * sz := Nat.le_mul_of_pos_right n hpos
  simp only [maxLen]; omega
 ·show List.take (n * sz) _ = _
  rw [← hflen]
  exact List.take_length
 ·cases hh; exact R.unowned (Nat.le_refl _)
 ·cases hh; exact R.none (Nat.le_refl _) o
end
end Go.Proofs.YthdkjfhpbigdpaaDoor.Ev

namespace Go.Proofs.YthdkjfhpbigdpaaDoor.Ev
open Go Go.RowKit
set_option linter.unusedSimpArgs false
set_option linter.unusedVariables false

theorem hp_old (w : World) (o : Obj) (i : Nat) (h : i < w.heap.size) : (w.alloc o).heap[i]? = w.heap[i]? := by first|exact heap_alloc_old w o i h|exact heap_alloc_old w o h
theorem run_append_own' {P : Program} (w : World) (base : Nat) (t ty e : TypeId) (i : TypeInfo) (z : Value) (size bytes : Nat) (ht : P.underlying t = some (.slice e)) (hi : P.info? e = some i) (hz : i.zero = some z)
  (hsize : i.size = size) (hby : i.bytes = bytes) (hzs : z.cells.size = size) (hsz : 0 < size)
  (v : Value) (n : Nat) (xs : List Value) (hown : w.ownsRow base e size v n xs)
  (a : Addr) (m c : Nat) (news : List Value) (hl : news.length = m * size) (hnews : ∀ j u, news[j]? = some u → w.cell? (a.add j) = some u) (h1 : ∀ u ∈ news, u.oneCell' = true)
  (h63 : n + m ≤ maxLen) (hbytes : (n + m) * bytes ≤ 140737488355328) (hbase : base ≤ w.heap.size) :
  ∃ v' w', (Builtin.append_ #[t, t] ty #[v, .slice (some a) m c]).run P w = .ok v' w' ∧ w'.ownsRow base e size v' (n + m) (xs ++ news) ∧ w.grownBy w' v.ownBlock ∧
   (∀ h, v.ownBlock = some h → ∀ j, j < n * size → w'.cell? ⟨h, j, none⟩ = w.cell? ⟨h, j, none⟩) ∧ (∀ h, v'.ownBlock = some h → v.ownBlock = some h ∨ w.heap.size ≤ h) := by
 subst hsize
 subst hby
 have hsmall : n + m ≤ 9223372036854775807 := by simp only [maxLen] at h63; omega
 have hlen : (xs ++ news).length = (n + m) * i.size := by rw [List.length_append, hown.1, hl, Nat.add_mul]
 have grown : ∀ (old : Nat), old < n + m → ∀ (row : Option Nat),
   (w.drew.alloc (.cells (xs.toArray ++ news.toArray ++ Builtin.zeroCells z.cells (grownCap w (n + m) old e - (n + m))) e)).ownsRow base e i.size
    (.slice (some ⟨w.heap.size, 0, none⟩) (n + m) (grownCap w (n + m) old e)) (n + m) (xs ++ news) ∧
   w.grownBy (w.drew.alloc (.cells (xs.toArray ++ news.toArray ++ Builtin.zeroCells z.cells (grownCap w (n + m) old e - (n + m))) e)) row := by
  intro old ho row
  have hge := grownCap_ge w (n + m) old e
  have hcm : grownCap w (n + m) old e ≤ maxLen := grownCap_le_maxLen w (n + m) old e h63
  refine ⟨⟨hlen, .inr ⟨w.heap.size, _, _, rfl, hbase, heap_alloc_new w.drew _, hge, hcm, ?_, ?_⟩⟩, ⟨rfl, rfl, rfl, by simp, fun k hk _ => hp_old w.drew _ k hk⟩⟩
  ·simp only [Array.size_append, List.size_toArray, size_zeroCells, hzs, hown.1, hl, ← Nat.add_mul]
   congr 1
   omega
  ·simp only [Array.toList_append, List.append_assoc]
   rw [← List.append_assoc, ← hlen]
   exact List.take_left
 rcases hown.2 with ⟨rfl, rfl⟩ | ⟨g, cap, cur, rfl, hbg, hg, hnc, hcm, hcs, htake⟩
 ·have hx : xs = [] := List.eq_nil_of_length_eq_zero (by simpa using hown.1)
  subst hx
  by_cases hm : m = 0
  ·subst hm
   have hn : news = [] := List.eq_nil_of_length_eq_zero (by simpa using hl)
   subst hn
   refine ⟨.slice none 0 0, w, ?_, World.ownsRow_nil w base e i.size, ⟨rfl, rfl, rfl, Nat.le_refl _, fun _ _ _ => rfl⟩, by simp [Value.ownBlock], by simp [Value.ownBlock]⟩
   simp [Builtin.append_, run_underlying ht, sizeOf, typeInfo, hi, Builtin.lenOf, Builtin.firstCells, loadCells, loadCellsFrom]
  ·have hr := run_append_nil (P := P) w t ty e i z ht hi hz a m c news hl hnews (by omega) (by omega) (by have hb := hbytes; simp only [Nat.zero_add] at hb; omega)
   have hgr := grown 0 (by omega) (Value.ownBlock (.slice none 0 0))
   simp only [Nat.zero_add, List.nil_append, Array.empty_append] at hgr ⊢
   exact ⟨_, _, hr, hgr.1, hgr.2, by simp [Value.ownBlock], fun h hh => by cases hh; exact .inr (Nat.le_refl _)⟩
 ·by_cases hroom : n + m ≤ cap
  ·have hfit : n * i.size + news.length ≤ cur.size := by rw [hl, hcs, ← Nat.add_mul]; exact Nat.mul_le_mul_right _ hroom
   have hr := run_append_room (P := P) w t ty e i ht hi g n cap cur hg a m c news hl hnews h1 hroom hfit
   refine ⟨_, _, hr, ⟨hlen, .inr ⟨g, cap, _, rfl, hbg, setRow_heap w g cur _ e _ hg, hroom, hcm, ?_, ?_⟩⟩, ⟨rfl, rfl, rfl, by simp, fun k _ hk => setRow_other w g k _ (fun e => hk (by simp [Value.ownBlock, e]))⟩, fun h hh j hj => ?_, fun h hh => .inl hh⟩
   ·simp only [List.size_toArray, List.length_append, List.length_take, List.length_drop, Array.length_toList]
    omega
   ·rw [htake, ← hlen]
    exact List.take_left
   ·cases hh
    rw [cell_of_row _ g j _ e (0, 0) (setRow_heap w g cur _ e _ hg), cell_of_row w g j cur e (0, 0) hg]
    rw [List.getElem?_toArray, List.append_assoc, List.getElem?_append_left (by simp; omega), List.getElem?_take_of_lt hj]
    simp
  ·have holds : ∀ j u, xs[j]? = some u → w.cell? ((⟨g, 0, none⟩ : Addr).add j) = some u := hown.cells (g := g) rfl
   have hr := run_append_grow (P := P) w t ty e i z ht hi hz ⟨g, 0, none⟩ n cap xs hown.1 holds a m c news hl hnews (by omega) (by omega) (growslice_fits (by omega) hbytes)
   have hgr := grown cap (by omega) (Value.ownBlock (.slice (some ⟨g, 0, none⟩) n cap))
   refine ⟨_, _, hr, hgr.1, hgr.2, fun h hh j hj => ?_, fun h hh => by cases hh; exact .inr (Nat.le_refl _)⟩
   cases hh
   exact World.cell?_of_block (w := w) (hp_old w.drew _ g (lt_of_heap hg))
theorem run_append_nothing {P : Program} (w : World) (t ty e : TypeId) (i : TypeInfo) (ht : P.underlying t = some (.slice e)) (hi : P.info? e = some i) (b A : Option Addr) (n cap c : Nat) (hn : n ≤ cap) :
  (Builtin.append_ #[t, t] ty #[.slice b n cap, .slice A 0 c]).run P w = .ok (.slice b n cap) w := by
 cases b <;> cases A <;> simp [Builtin.append_, run_underlying ht, sizeOf, typeInfo, hi, Builtin.lenOf, Builtin.firstCells, hn, storeCells, loadCells, loadCellsFrom]
end Go.Proofs.YthdkjfhpbigdpaaDoor.Ev

namespace Go.Proofs.YthdkjfhpbigdpaaDoor.Ev
open Go Go.RowKit
set_option linter.unusedSimpArgs false
set_option linter.unusedVariables false

theorem agr_same {S : Snap} {w w' : World} (hA : Agr S w) (h : ∀ b o v, S b o = some v → w'.heap[b]? = w.heap[b]?) : Agr S w' :=
 ⟨fun b o v e => by rw [World.cell?_of_block (w := w) (h b o v e)]; exact hA.1 b o v e, fun b o v o' v' e e' => by rw [World.cell?_of_block (w := w) (h b o v e)] at e'; exact hA.2 b o v o' v' e e'⟩
section
variable {P : Program} {c : Cx} {fr : Nat → Prop} {g : Gh} {st : AS} {a : Act} {w : World} {dst : Option Tmp} {type : TypeId} {pos : String} {after : Array Edge} {guard : Option (Nat × Bool)}
 {id : Nat} {K : AS → Prop} {Q : Exit → Act → World → Prop}
theorem grow_spec (R : Rel c fr g st a w) {e sz : Nat} {av : AV} {v : Value} {k : Option Nat} {xs : List (List AV)} (r : Rep g av v) (hg : growOf e sz st.gr av = some (k, xs)) :
  ∃ vs, w.ownsRow c.w0.heap.size e sz v xs.length vs ∧ (∀ q ∈ xs, q.length = sz) ∧ All2 (Pur g.S) xs.flatten vs ∧ (∀ h, v.ownBlock = some h → ∀ o, g.S h o = none) ∧
   (∀ h, v.ownBlock = some h → ∃ k', k = some k' ∧ Owns st g (false, k') h) := by
 unfold growOf at hg
 split at hg
 ·cases hg
  have cl := Cel.conv r (by simp) (by simp) (by simp)
  cases cl with
  | pur p => cases p; exact ⟨[], World.ownsRow_nil w _ e sz, by simp, .nil, by simp [Value.ownBlock], by simp [Value.ownBlock]⟩
 ·rename_i k'
  split at hg
  ·rename_i rr hr
   split at hg
   ·rename_i hc
    cases hg
    obtain ⟨rfl, rfl, hl⟩ := hc
    obtain ⟨v0, e1, ⟨e2, _⟩, e3, _⟩ := R.row k' rr hr
    rw [cel_ref r] at e1; cases e1
    obtain ⟨vs, ho, hp, hS⟩ := e3 hl
    exact ⟨vs, ho, e2, hp, hS, fun h hh => ⟨k', rfl, ⟨rr, hr, hl⟩, v, cel_ref r, hh⟩⟩
   ·cases hg
  ·cases hg
 ·cases hg
theorem op_ap (R : Rel c fr g st a w) (hf : fr id) (hd : ∀ i, dst = some i → i < c.n) {t e : TypeId} {x y : Operand} {i : TypeInfo} {z : List Value} (he : elemOf' P t = some e) (hi : P.info? e = some i) (hz : zeroOf P e = some z)
  (ho : oAll [x, y] = true) (hzl : z.length = i.size) (hpos : 0 < i.size) {k : Option Nat} {xs ys : List (List AV)} (hg : growOf e i.size st.gr (st.ev x) = some (k, xs)) (hy : rowOf st.gr (st.ev y) = some ys)
  (hall : (ys.all fun c => c.length == i.size) = true) (hroom : Room (xs.length + ys.length) i.bytes)
  (hK : K ({ st with gr := upd (killT st.gr k) id (some ⟨e, i.size, xs ++ ys, true⟩) }.put dst (.ref id))) :
  Oper.wp P ⟨dst, .call { callee := .builtin .append, args := #[x, y], argTypes := #[t, t] }, type, pos, after, guard⟩ a w (Goes c fr id K) Q := by
 have hom := oAll_mem ho
 have hu := elemOf_spec he
 obtain ⟨i', zv, hi', hiz, rfl, hone⟩ := zeroOf_spec hz
 rw [hi] at hi'; cases hi'
 obtain ⟨vs, hown, hxsz, hxc, hxS, hxo⟩ := grow_spec R (R.ev x (hom x (by simp))) hg
 have hysz : ∀ c ∈ ys, c.length = i.size := by simpa using hall
 have R1 := R.kill k
 have key : ∀ (v' : Value) (w' : World) (news : List Value), (Builtin.append_ #[t, t] type #[a.eval x, a.eval y]).run P w = .ok v' w' → w'.ownsRow c.w0.heap.size e i.size v' (xs.length + ys.length) (vs ++ news) → w.grownBy w' (a.eval x).ownBlock →
   (∀ h, v'.ownBlock = some h → (a.eval x).ownBlock = some h ∨ w.heap.size ≤ h) → All2 (Pur g.S) ys.flatten news →
   Oper.wp P ⟨dst, .call { callee := .builtin .append, args := #[x, y], argTypes := #[t, t] }, type, pos, after, guard⟩ a w (Goes c fr id K) Q := fun v' w' news hrun hown' hgr hblk hyc => by
  have hnot : ∀ q h, Owns { st with gr := killT st.gr k } g q h → (a.eval x).ownBlock ≠ some h := fun q h hq hb => by
   obtain ⟨k', rfl, ho'⟩ := hxo h hb
   have hq' : Owns st g q h := by
    obtain ⟨b, j⟩ := q
    cases b with
    | true => exact hq
    | false =>
     obtain ⟨⟨y, h1, h2⟩, r⟩ := hq
     refine ⟨⟨y, ?_, h2⟩, r⟩
     simp only [killT, upd] at h1
     split at h1
     ·cases h1
     ·exact h1
   have := R.inj q (false, k') h hq' ho'
   subst this
   obtain ⟨⟨y, h1, _⟩, _⟩ := hq
   simp [killT, upd] at h1
  have R2 : Rel c fr g { st with gr := killT st.gr k } a w' := R1.world ⟨hgr.os, hgr.tape, hgr.output, hgr.size, fun j hj _ => hgr.block j (Nat.lt_of_lt_of_le hj R.keep.size) fun hb => by
    have := (hown.lt j hb.symm).1
    omega⟩ (agr_same R.agr fun b o u hS => hgr.block b (R.agr.lt hS) fun hb => by rw [hxS b hb.symm o] at hS; cases hS) fun q h hq => hgr.block h (R1.owned hq).1 fun hb => hnot q h hq hb.symm
  refine wp_of_run (v := v') (w' := w') ?_ ⟨_, hK, ?_⟩
  ·simp [execOp, resolve, invoke, builtin, hrun]
  ·refine after_row R2 hf hd hown' (fun h hh q hq => ?_) (fun h hh o => ?_) (by simp) (fun c hc => (List.mem_append.1 hc).elim (hxsz c) (hysz c)) (by simpa using hxc.append hyc)
   ·rcases hblk h hh with hb | hb
    ·exact hnot q h hq hb
    ·exact R1.unowned hb q hq
   ·rcases hblk h hh with hb | hb
    ·exact hxS h hb o
    ·exact R.none hb o
 rcases rowOf_rep R (R.ev y (hom y (by simp))) hy with ⟨⟨A0, c0, hv⟩, rfl⟩ | ⟨b, o, cap, news, hv, hle, hpn, hcell⟩
 ·have hx : ∃ bs n cp, a.eval x = .slice bs n cp ∧ n ≤ cp := by
   rcases hown.2 with ⟨h, _⟩ | ⟨h, cap', cur, hv', hb, hh, r1, r2, r3, r4⟩
   ·exact ⟨_, _, _, h, Nat.le_refl _⟩
   ·exact ⟨_, _, _, hv', r1⟩
  obtain ⟨bs, n, cp, hx, hn⟩ := hx
  exact key (a.eval x) w [] (by rw [hv, hx]; exact run_append_nothing w t type e i hu hi bs A0 n cp c0 hn) (by simpa using hown) ⟨rfl, rfl, rfl, Nat.le_refl _, fun _ _ _ => rfl⟩ (fun h hh => .inl hh) .nil
 ·have hnl : news.length = ys.length * i.size := by rw [← hpn.length, flat_len ys hysz]
  have hone' : ∀ {la : List AV} {bs : List Value}, All2 (Pur g.S) la bs → ∀ v ∈ bs, v.oneCell' = true := fun h => by
   induction h with
   | nil => simp
   | cons h _ ih => exact fun v hv => (List.mem_cons.1 hv).elim (fun e => e ▸ h.one) (ih v)
  obtain ⟨v', w', q1, q2, q3, q4, q5⟩ := run_append_own' (P := P) w c.w0.heap.size t type e i zv i.size i.bytes hu hi hiz rfl rfl (by simpa using hzl) hpos (a.eval x) xs.length vs hown ⟨b, o, none⟩ ys.length cap news hnl
   (fun j u hj => by rw [Addr.add_lit]; exact hcell j u hj) (hone' hpn)
   (by have := hroom.1; simp only [maxLen]; omega) hroom.2 R.keep.size
  exact key v' w' news (by rw [hv]; exact q1) q2 q3 q5 hpn
theorem op_call {J : World → Prop} {E : Env} (hE : Ok P J E) (R0 : Rel c fr g st a w) (hJ : J w) (hd : ∀ i, dst = some i → i < c.n) {f : FuncId} {args : Array Operand} {ts : Array TypeId} {fn : Func} (ho : oAll args.toList = true)
  (hfn : P.funcs[f]? = some fn) (hb : fn.body.isSome = true) (hname : (fn.name != "runtime.NumGoroutine") = true) {out : AOut} (he0 : E f (args.toList.map fun x => strip st.gr (st.ev x)) out) {X : AV → Prop}
  (hK : out.on (fun v => K ({ st with gr := shut st.gr ((args.toList.map st.ev).flatMap refs) }.put dst v)) X) (hX : ∀ x a w, X (.s x) → a.defers = [] → Keep c.w0.heap.size c.gs c.w0 w → Q (.panic [{ v := x, recovered := false }]) a w) :
  Oper.wp P ⟨dst, .call { callee := .value (.func f), args, argTypes := ts }, type, pos, after, guard⟩ a w (Goes c fr id K) Q := by
 have hrun : (execOp a.eval (⟨dst, .call { callee := .value (.func f), args, argTypes := ts }, type, pos, after, guard⟩ : Oper)).run P w = .ok (.enter f (args.toList.map a.eval).toArray) w := by
  have hname' : ¬ fn.name = "runtime.NumGoroutine" := by simpa using hname
  have hb' : ¬ fn.body = none := by cases hq : fn.body <;> simp [hq] at hb ⊢
  have harr : (args.toList.map a.eval).toArray = args.map a.eval := by rw [← Array.toList_map]
  rw [harr]
  simp [execOp, resolve, invoke, Deferred.ofValue, Act.eval, callFunc, hfn, hname', hb']
 obtain ⟨g1, L1, _, _, R⟩ := R0.shuts ((args.toList.map st.ev).flatMap refs)
 have hev : ({ st with gr := shut st.gr ((args.toList.map st.ev).flatMap refs) } : AS).ev = st.ev := by funext x; cases x <;> rfl
 have hargs := args_rep R ho (by rw [hev]; exact shut_shut)
 simp only [hev, strip_shut] at hargs
 unfold Oper.wp
 rw [hrun]
 refine Calls.mono (hE f _ _ he0 g1.S w _ hJ R.agr hargs) fun e w' hp => ?_
 cases out with
 | ret v =>
  cases e with
  | returned x =>
   obtain ⟨S', h1, h2, h3, h4, h5⟩ := hp
   have R1 := R.step h4
   have R2 := R1.ext (S' := S') h1 h3 fun b o hne => by
    have : ¬ b < w.heap.size := fun hlt => hne (h2 b o hlt)
    exact ⟨Nat.le_trans R.keep.size (by omega), fun x => R.unowned (by omega) x⟩
   exact ⟨_, hK, after_pure R2 hd (h5.mono (g0_le (S := S') (g := { g1 with S := S' }) (SLe.refl _)))⟩
  | panicked ch => exact hp.elim
  | outgrown => exact hp.elim
 | pan v =>
  cases e with
  | returned x => exact hp.elim
  | panicked ch =>
   obtain ⟨x, rfl, rfl, h4⟩ := hp
   exact hX x a w' hK R.defers (R.keep.trans (.of_below' h4 R.keep.size))
  | outgrown => exact hp.elim
theorem op_pan (R : Rel c fr g st a w) {x : Operand} (ho : oOk x = true) {t : TypeId} {v : Value} (hx : st.ev x = .s (.iface t v)) {X : AV → Prop} (hK : X (.s (.iface t v)))
  (hX : ∀ x a w, X (.s x) → a.defers = [] → Keep c.w0.heap.size c.gs c.w0 w → Q (.panic [{ v := x, recovered := false }]) a w) : Oper.wp P ⟨dst, .panic x, type, pos, after, guard⟩ a w (Goes c fr id K) Q := by
 have e : a.eval x = .iface t v := sc_rep (R.ev x ho) (by rw [hx]; rfl)
 unfold Oper.wp
 simp only [execOp, e, Instr.panic, Sem.run_bind, run_goPanic, Result.andThen_halt, Oper.upon]
 exact hX _ a w hK R.defers R.keep
end
end Go.Proofs.YthdkjfhpbigdpaaDoor.Ev

namespace Go.Proofs.YthdkjfhpbigdpaaDoor.Ev
open Go Go.RowKit
set_option linter.unusedSimpArgs false
set_option linter.unusedVariables false

theorem byteList_spec {S : Snap} : ∀ {xs : List (List AV)} {l : List UInt8} {vs : List Value}, byteList xs = some l → All2 (Pur S) xs.flatten vs →
  xs.length = vs.length ∧ ∃ ns : List Int, vs = ns.map (Value.int .u8) ∧ l = ns.map fun n => UInt8.ofNat n.toNat
 | [], l, vs, h, k => by
  simp only [byteList, Option.some.injEq] at h
  subst h
  cases k
  exact ⟨rfl, [], rfl, rfl⟩
 | c :: xs, l, vs, h, k => by
  unfold byteList at h
  split at h
  ·rename_i heq; cases heq
  ·rename_i n r heq
   cases heq
   simp only [Option.map_eq_some_iff] at h
   obtain ⟨l', h', rfl⟩ := h
   simp only [List.flatten_cons, List.cons_append, List.nil_append] at k
   cases k with
   | cons p k =>
    cases p
    obtain ⟨e, ns, rfl, rfl⟩ := byteList_spec h' k
    exact ⟨by simp at e ⊢; exact e, n :: ns, rfl, rfl⟩
  ·cases h
theorem foldl_push : ∀ (ns : List Int) (b : ByteArray), ns.foldl (fun r n => r.push (UInt8.ofNat n.toNat)) b = ⟨b.data ++ (ns.map fun n => UInt8.ofNat n.toNat).toArray⟩
 | [], b => by simp
 | n :: ns, b => by
  rw [List.foldl_cons, foldl_push ns]
  simp [ByteArray.push]
theorem isByteRow_spec {P : Program} {t : TypeId} (h : isByteRow P t = true) : ∃ e, P.underlying t = some (.slice e) ∧ P.underlying e = some (.int .u8) := by
 unfold isByteRow at h
 split at h
 ·rename_i e hu
  split at h
  ·rename_i hu'; exact ⟨e, hu, hu'⟩
  ·cases h
 ·cases h
section
variable {P : Program} {c : Cx} {fr : Nat → Prop} {g : Gh} {st : AS} {a : Act} {w : World} {dst : Option Tmp} {type : TypeId} {pos : String} {after : Array Edge} {guard : Option (Nat × Bool)} {av : AV}
theorem pv_bts (R : Rel c fr g st a w) {s d : TypeId} {x : Operand} (hs : isByteRow P s = true) (hd : isStr P d = true) (hx : oOk x = true) (h : pv P st.ev st.bx st.gr (.bts x) = some av) :
  PvOk P ⟨dst, .convert s d x, type, pos, after, guard⟩ g a w av := by
 obtain ⟨e, hu, he⟩ := isByteRow_spec hs
 have hdu := isStr_spec hd
 simp only [pv] at h
 split at h
 ·rename_i xs hxs
  simp only [Option.map_eq_some_iff] at h
  obtain ⟨l, hl, rfl⟩ := h
  rcases rowOf_rep R (R.ev x hx) hxs with ⟨⟨A0, c0, hv⟩, rfl⟩ | ⟨b, o, cap, vs, hv, hle, hp, hcell⟩
  ·simp only [byteList, Option.some.injEq] at hl
   subst hl
   refine ⟨.string ⟨#[]⟩, ?_, rep_s rfl⟩
   cases A0 with
   | none => simp [execOp, hv, convert, run_underlying hu, run_underlying hdu, run_underlying he, Conv.bytesToString]; rfl
   | some p => simp [execOp, hv, convert, run_underlying hu, run_underlying hdu, run_underlying he, Conv.bytesToString, loadCells, loadCellsFrom]; rfl
  ·obtain ⟨e1, ns, rfl, rfl⟩ := byteList_spec hl hp
   have hlc := run_loadCells_list (P := P) w ⟨b, o, none⟩ (ns.map (Value.int .u8)) (fun j u hj => by rw [Addr.add_lit]; exact hcell j u hj)
   rw [← e1] at hlc
   have hb := run_bytesToString (P := P) w ⟨b, o, none⟩ xs.length cap ns hlc
   refine ⟨.string ⟨(ns.map fun n => UInt8.ofNat n.toNat).toArray⟩, ?_, rep_s rfl⟩
   rw [foldl_push] at hb
   simp only [execOp, hv, convert, Sem.run_bind, run_underlying hu, run_underlying hdu, run_underlying he, Result.andThen_ok, hb]
   simp [show ByteArray.empty.data = #[] from rfl]
 ·cases h
end
def AOp.quiet : AOp → Bool
 | .box _ | .alloc _ | .st .. | .bs .. | .ap .. | .call .. | .pan _ => false
 | _ => true
theorem stp_quiet {P : Program} {E : Env} {id : Nat} {st : AS} {d : Option Nat} {K : AS → Prop} {X : AV → Prop} {o : AOp} (h : o.quiet = true) : stp P E id st d K X o = ∃ v, pv P st.ev st.bx st.gr o = some v ∧ K (st.put d v) := by
 cases o <;> first|rfl | (cases h)
section
variable {P : Program} {c : Cx} {fr : Nat → Prop} {g : Gh} {st : AS} {a : Act} {w : World} {id : Nat} {K : AS → Prop} {Q : Exit → Act → World → Prop} {X : AV → Prop} {J : World → Prop} {E : Env}
theorem op_quiet (R : Rel c fr g st a w) {o : Oper} (hd : ∀ i, o.dst = some i → i < c.n) {av : AV} (h : PvOk P o g a w av) (k : K (st.put o.dst av)) : o.wp P a w (Goes c fr id K) Q := by
 obtain ⟨v, hr, rp⟩ := h
 exact wp_of_run hr ⟨_, k, after_pure R hd rp⟩
theorem args2 {args : Array Operand} {x y : Operand} (h : args.toList = [x, y]) : args = #[x, y] := by rw [← Array.toArray_toList (xs := args), h]
theorem args1 {args : Array Operand} {x : Operand} (h : args.toList = [x]) : args = #[x] := by rw [← Array.toArray_toList (xs := args), h]
theorem ts2 {args : Array TypeId} {x y : TypeId} (h : args.toList = [x, y]) : args = #[x, y] := by rw [← Array.toArray_toList (xs := args), h]
theorem ts1 {args : Array TypeId} {x : TypeId} (h : args.toList = [x]) : args = #[x] := by rw [← Array.toArray_toList (xs := args), h]
end
end Go.Proofs.YthdkjfhpbigdpaaDoor.Ev

namespace Go.Proofs.YthdkjfhpbigdpaaDoor.Ev
open Go Go.RowKit
set_option linter.unusedSimpArgs false
set_option linter.unusedVariables false
section
variable {P : Program} {c : Cx} {fr : Nat → Prop} {g : Gh} {st : AS} {a : Act} {w : World} {id : Nat} {K : AS → Prop} {Q : Exit → Act → World → Prop} {X : AV → Prop} {J : World → Prop} {E : Env}
theorem stp_q {o : AOp} {d : Option Nat} (h : stp P E id st d K X o) (hq : o.quiet = true) : ∃ v, pv P st.ev st.bx st.gr o = some v ∧ K (st.put d v) := by rw [stp_quiet hq] at h; exact h
theorem op_sound (hE : Ok P J E) (R : Rel c fr g st a w) (hJ : J w) (hf : fr id) {o : Oper} (hd : ∀ i, o.dst = some i → i < c.n) {ao : AOp} (hc : cop P o = some ao) (h : stp P E id st o.dst K X ao)
  (hX : ∀ x a w, X (.s x) → a.defers = [] → Keep c.w0.heap.size c.gs c.w0 w → Q (.panic [{ v := x, recovered := false }]) a w) : o.wp P a w (Goes c fr id K) Q := by
 obtain ⟨dst, op, type, pos, after, guard⟩ := o
 cases op <;> simp only [cop] at hc <;> dsimp only at h hd
 case move x =>
  split at hc <;> cases hc
  rename_i ho
  obtain ⟨v, hv, k⟩ := stp_q h rfl
  exact op_quiet R hd (pv_mv R ho hv).1 k
 case assign x =>
  split at hc <;> cases hc
  rename_i ho
  obtain ⟨v, hv, k⟩ := stp_q h rfl
  exact op_quiet R hd (pv_mv R ho hv).2 k
 case pick x y z =>
  split at hc <;> cases hc
  rename_i ho
  obtain ⟨v, hv, k⟩ := stp_q h rfl
  exact op_quiet R hd (pv_pick R ho hv) k
 case alloc t =>
  simp only [Option.map_eq_some_iff] at hc
  obtain ⟨z, hz, rfl⟩ := hc
  exact op_alloc R hf hd hz h
 case box t x =>
  split at hc <;> cases hc
  rename_i ho
  obtain ⟨cs, hcs, k⟩ := h
  exact op_box R hf hd ho hcs k
 case build t ps =>
  split at hc
  ·rename_i z l hz hl
   split at hc <;> cases hc
   rename_i ho
   simp only [Bool.and_eq_true] at ho
   obtain ⟨v, hv, k⟩ := stp_q h rfl
   exact op_quiet R hd (pv_bld R hz hl ho.1 ho.2 hv) k
  ·cases hc
 case buildSlice t n ps =>
  split at hc
  ·rename_i e he
   split at hc
   ·rename_i sz l z hs hl hz
    split at hc <;> cases hc
    rename_i ho
    simp only [Bool.and_eq_true, beq_iff_eq, decide_eq_true_eq] at ho
    obtain ⟨⟨⟨⟨ho, hn⟩, hzl⟩, hpos⟩, hsm⟩ := ho
    obtain ⟨xs, hx, _, k⟩ := h
    exact op_bs R hf hd he hs hz hl ho hn hzl hpos hsm hx k
   ·cases hc
  ·cases hc
 case load t x =>
  split at hc
  ·rename_i ag n ha hs
   split at hc <;> cases hc
   rename_i ho
   obtain ⟨v, hv, k⟩ := stp_q h rfl
   exact op_quiet R hd (pv_ld R ha hs ho hv) k
  ·cases hc
 case store t p x =>
  split at hc
  ·rename_i n hs
   split at hc <;> cases hc
   rename_i ho
   simp only [stp] at h
   split at h
   ·rename_i b o h1
    obtain ⟨cs, new, h2, h3, h4, h5, k⟩ := h
    exact op_st R hd hs ho h1 h2 h3 h4 h5 k
   ·rename_i kk sz i o h1
    obtain ⟨r, cs, new, h2, h3, h4, h5, h6, h7, h8, h9, k⟩ := h
    exact op_stR R hd hs ho h1 h2 h3 h4 h5 h6 h7 h8 h9 k
   ·exact h.elim
  ·cases hc
 case binOp op t x y u =>
  split at hc <;> cases hc
  rename_i ho
  obtain ⟨v, hv, k⟩ := stp_q h rfl
  exact op_quiet R hd (pv_sc R ho hv (by simp [execOp, Sc.sem])) k
 case unOp op t x =>
  split at hc <;> cases hc
  rename_i ho
  obtain ⟨v, hv, k⟩ := stp_q h rfl
  exact op_quiet R hd (pv_sc R (by simpa [oAll] using ho) hv (by simp [execOp, Sc.sem])) k
 case convert s d x =>
  split at hc
  ·rename_i ho
   split at hc <;> cases hc
   ·rename_i hb
    simp only [Bool.and_eq_true] at hb
    obtain ⟨v, hv, k⟩ := stp_q h rfl
    exact op_quiet R hd (pv_bts R hb.1 hb.2 ho hv) k
   ·obtain ⟨v, hv, k⟩ := stp_q h rfl
    exact op_quiet R hd (pv_sc R (by simpa [oAll] using ho) hv (by simp [execOp, Sc.sem])) k
  ·cases hc
 case makeInterface t x =>
  split at hc <;> cases hc
  rename_i ho
  obtain ⟨v, hv, k⟩ := stp_q h rfl
  exact op_quiet R hd (pv_sc R (by simpa [oAll] using ho) hv (by simp [execOp, Sc.sem])) k
 case slice t x lo hi mx =>
  cases mx with
  | some m => cases hc
  | none =>
   simp only at hc
   split at hc
   ·rename_i ho
    split at hc
    ·cases hc
     obtain ⟨v, hv, k⟩ := stp_q h rfl
     refine op_quiet R hd (pv_sc R ho hv ?_) k
     cases lo <;> cases hi <;> simp [execOp, Sc.sem]
    ·split at hc
     ·rename_i e he
      simp only [Option.map_eq_some_iff] at hc
      obtain ⟨sz, hs, rfl⟩ := hc
      obtain ⟨v, hv, k⟩ := stp_q h rfl
      exact op_quiet R hd (pv_rs R he hs ho hv) k
     ·cases hc
   ·cases hc
 case nilCheck x =>
  split at hc <;> cases hc
  rename_i ho
  obtain ⟨v, hv, k⟩ := stp_q h rfl
  exact op_quiet R hd (pv_nc R ho hv) k
 case fieldAddr t x f =>
  split at hc
  ·rename_i ag off n hf'
   split at hc <;> cases hc
   rename_i ho
   simp only [Bool.and_eq_true, bne_iff_ne, ne_eq] at ho
   obtain ⟨v, hv, k⟩ := stp_q h rfl
   exact op_quiet R hd (pv_fa R hf' ho.1 ho.2 hv) k
  ·cases hc
 case field t x f =>
  split at hc
  ·rename_i ag off n hf'
   split at hc <;> cases hc
   rename_i ho
   obtain ⟨v, hv, k⟩ := stp_q h rfl
   exact op_quiet R hd (pv_fd R hf' ho hv) k
  ·cases hc
 case indexAddr t x i =>
  split at hc
  ·rename_i e he
   split at hc
   ·rename_i sz hs
    split at hc <;> cases hc
    rename_i ho
    obtain ⟨v, hv, k⟩ := stp_q h rfl
    exact op_quiet R hd (pv_ia R he hs ho hv) k
   ·cases hc
  ·cases hc
 case index t x i =>
  split at hc <;> cases hc
  rename_i ho
  simp only [Bool.and_eq_true] at ho
  obtain ⟨v, hv, k⟩ := stp_q h rfl
  exact op_quiet R hd (pv_sc R ho.1 hv (by simp [execOp, Sc.sem])) k
 case extract x i =>
  split at hc <;> cases hc
  rename_i ho
  obtain ⟨v, hv, k⟩ := stp_q h rfl
  exact op_quiet R hd (pv_ex R ho hv) k
 case call cl =>
  obtain ⟨callee, args, ts⟩ := cl
  cases callee with
  | builtin b =>
   cases b <;> simp only at hc
   case append =>
    split at hc
    ·rename_i x y t u ha ht
     split at hc
     ·rename_i e he
      split at hc
      ·rename_i i z hi hz
       split at hc <;> cases hc
       rename_i ho
       simp only [Bool.and_eq_true, beq_iff_eq, decide_eq_true_eq] at ho
       obtain ⟨⟨⟨rfl, ho⟩, hzl⟩, hpos⟩ := ho
       obtain ⟨k, xs, ys, h1, h2, h3, h4, h5⟩ := h
       rw [args2 ha, ts2 ht]
       exact op_ap R hf hd he hi hz ho hzl hpos h1 h2 h3 h4 h5
      ·cases hc
     ·cases hc
    ·cases hc
   case len =>
    split at hc
    ·rename_i x t ha ht
     split at hc
     ·rename_i ho
      rw [args1 ha, ts1 ht]
      split at hc <;> cases hc
      ·rename_i hs
       obtain ⟨e, he⟩ := Option.isSome_iff_exists.1 hs
       obtain ⟨v, hv, k⟩ := stp_q h rfl
       exact op_quiet R hd (pv_ln (cl := .builtin .len) R he ho hv) k
      ·obtain ⟨v, hv, k⟩ := stp_q h rfl
       exact op_quiet R hd (pv_sc R (by simpa [oAll] using ho) hv (by simp [execOp, resolve, invoke, builtin, Sc.sem])) k
     ·cases hc
    ·cases hc
   case min =>
    split at hc <;> cases hc
    rename_i ho
    obtain ⟨v, hv, k⟩ := stp_q h rfl
    refine op_quiet R hd (pv_sc R ho hv ?_) k
    have harr : (args.toList.map a.eval).toArray = args.map a.eval := by rw [← Array.toList_map]
    simp only [execOp, resolve, invoke, builtin, Sc.sem, harr, Array.toArray_toList]
    rfl
   case max =>
    split at hc <;> cases hc
    rename_i ho
    obtain ⟨v, hv, k⟩ := stp_q h rfl
    refine op_quiet R hd (pv_sc R ho hv ?_) k
    have harr : (args.toList.map a.eval).toArray = args.map a.eval := by rw [← Array.toList_map]
    simp only [execOp, resolve, invoke, builtin, Sc.sem, harr, Array.toArray_toList]
    rfl
   all_goals cases hc
  | invoke r m => cases hc
  | value f =>
   cases f with
   | func f =>
    simp only at hc
    split at hc <;> cases hc
    rename_i ho
    simp only [Bool.and_eq_true] at ho
    obtain ⟨⟨ho, -⟩, hfn⟩ := ho
    cases hq : P.funcs[f]? with
    | none => simp [hq] at hfn
    | some fn =>
     simp only [hq, Option.map_some, Option.getD_some, Bool.and_eq_true] at hfn
     obtain ⟨out, he, _, k⟩ := h
     exact op_call hE R hJ hd ho hq hfn.1 hfn.2 he k hX
   | _ => cases hc
 case panic x =>
  split at hc <;> cases hc
  rename_i ho
  obtain ⟨t, v, hx, k⟩ := h
  exact op_pan R ho hx k hX
 all_goals cases hc
end
end Go.Proofs.YthdkjfhpbigdpaaDoor.Ev

namespace Go.Proofs.YthdkjfhpbigdpaaDoor.Ev
open Go Go.RowKit
set_option linter.unusedSimpArgs false
set_option linter.unusedVariables false

def AOp.opds : AOp → List Operand
 | .mv x | .nc x | .fa _ x | .fd _ _ _ x | .ex x _ | .ln x | .bts x | .ld _ _ x | .box x | .pan x => [x]
 | .pick a b c => [a, b, c]
 | .sc _ xs | .bs _ _ xs | .call _ xs => xs
 | .bld _ ps => ps.map (·.2.2)
 | .ia _ x i => [x, i]
 | .rs _ x lo hi => [x] ++ lo.toList ++ hi.toList
 | .alloc _ => []
 | .st _ p x => [p, x]
 | .ap _ _ _ x y => [x, y]
def tmpsOf (l : List Operand) : List Tmp := l.filterMap fun | .tmp t => some t | _ => none
def AOper.reads (o : AOper) : List Tmp := (match o.g with | some (t, _) => [t] | none => []) ++ tmpsOf o.op.opds
def AOp.cls : AOp → Nat
 | .ld .. | .ia .. | .ln _ | .bts _ => 1
 | .box _ | .alloc _ => 2
 | .bs .. => 3
 | .ap .. => 6
 | .call .. => 5
 | .st .. => 4
 | _ => 0
def clsOk (a b : Nat) : Bool := if a = 0 ∨ b = 0 then true else (a != 4 && b != 4 && !(a == 6 && (b == 1 || b == 6)))
def apart (x y : AOper) : Bool :=
 (match x.d with | some d => !y.reads.contains d && y.d != some d | none => true) && (match y.d with | some d => !x.reads.contains d | none => true) && clsOk x.op.cls y.op.cls

theorem pv_congr {P : Program} {ev ev' : Operand → AV} {bx : Nat → Option (List AV)} {gr : Gr} {o : AOp} (h : ∀ x ∈ o.opds, ev x = ev' x) : pv P ev bx gr o = pv P ev' bx gr o := by
 cases o
 case pick a b c => simp only [pv, h a (by simp [AOp.opds]), h b (by simp [AOp.opds]), h c (by simp [AOp.opds])]
 case sc k xs => simp only [pv]; rw [show xs.map ev = xs.map ev' from List.map_congr_left h]
 case bld z ps => simp only [pv]; rw [List.map_congr_left (g := fun p => (p.1, p.2.1, ev' p.2.2)) fun p hp => by rw [h p.2.2 (List.mem_map_of_mem (f := fun x => x.2.2) hp)]]
 case ia sz x i => simp only [pv, h x (by simp [AOp.opds]), h i (by simp [AOp.opds])]
 case rs sz x lo hi =>
  simp only [pv, h x (by simp [AOp.opds])]
  cases lo <;> cases hi
  ·rfl
  ·rename_i a; simp only [h a (by simp [AOp.opds])]
  ·rename_i a; simp only [h a (by simp [AOp.opds])]
  ·rename_i a b; simp only [h a (by simp [AOp.opds]), h b (by simp [AOp.opds])]
 case mv x => simp only [pv, h x (by simp [AOp.opds])]
 case nc x => simp only [pv, h x (by simp [AOp.opds])]
 case fa off x => simp only [pv, h x (by simp [AOp.opds])]
 case fd ag off n x => simp only [pv, h x (by simp [AOp.opds])]
 case ex x i => simp only [pv, h x (by simp [AOp.opds])]
 case ln x => simp only [pv, h x (by simp [AOp.opds])]
 case bts x => simp only [pv, h x (by simp [AOp.opds])]
 case ld ag n x => simp only [pv, h x (by simp [AOp.opds])]
 all_goals rfl
theorem pv_bx {P : Program} {ev : Operand → AV} {bx bx' : Nat → Option (List AV)} {gr gr' : Gr} {o : AOp} (h : o.cls ≠ 1) : pv P ev bx gr o = pv P ev bx' gr' o := by
 cases o <;> first|rfl|(simp [AOp.cls] at h)

structure Res where
 v : AV
 bx : Nat → Option (List AV)
 gr : Gr
def Act1 (P : Program) (E : Env) (id : Nat) (ev : Operand → AV) (bx : Nat → Option (List AV)) (gr : Gr) (r : Res) : AOp → Prop
 | .box x => ∃ cs, cellsA (ev x) = some cs ∧ r = ⟨.ptr id 0, upd bx id (some cs), gr⟩
 | .alloc z => r = ⟨.ptr id 0, upd bx id (some (z.map .s)), gr⟩
 | .st n p x => match ev p with
  | .ptr b o => ∃ cs new, bx b = some cs ∧ cellsA (ev x) = some new ∧ new.length = n ∧ o + n ≤ cs.length ∧ r = ⟨.tup [], upd bx b (some (put1 cs o new)), gr⟩
  | .rptr k sz i o => ∃ y cs new, gr k = some y ∧ y.live = true ∧ y.sz = sz ∧ y.xs[i]? = some cs ∧ cellsA (strip gr (ev x)) = some new ∧ refs (ev x) = [] ∧ new.length = n ∧ o + n ≤ cs.length ∧
    r = ⟨.tup [], bx, upd gr k (some { y with xs := y.xs.set i (put1 cs o new) })⟩
  | _ => False
 | .bs e sz ps => ∃ xs, elemsOf gr sz (ps.map ev) = some xs ∧ here gr ((ps.map ev).flatMap refs) = true ∧ r = ⟨.ref id, bx, upd (shut gr ((ps.map ev).flatMap refs)) id (some ⟨e, sz, xs, true⟩)⟩
 | .ap e sz bytes x y => ∃ k xs ys, growOf e sz gr (ev x) = some (k, xs) ∧ rowOf gr (ev y) = some ys ∧ (ys.all fun c => c.length == sz) = true ∧ Room (xs.length + ys.length) bytes ∧
   r = ⟨.ref id, bx, upd (killT gr k) id (some ⟨e, sz, xs ++ ys, true⟩)⟩
 | .call f xs => ∃ v, E f (xs.map fun x => strip gr (ev x)) (.ret v) ∧ here gr ((xs.map ev).flatMap refs) = true ∧ r = ⟨v, bx, shut gr ((xs.map ev).flatMap refs)⟩
 | .pan _ => False
 | o => ∃ v, pv P ev bx gr o = some v ∧ r = ⟨v, bx, gr⟩
def AS.aft (st : AS) (d : Option Nat) (r : Res) : AS := { st with bx := r.bx, gr := r.gr }.put d r.v
def Pan1 (E : Env) (ev : Operand → AV) (gr : Gr) (v : AV) : AOp → Prop
 | .call f xs => E f (xs.map fun x => strip gr (ev x)) (.pan v) ∧ here gr ((xs.map ev).flatMap refs) = true
 | .pan x => ∃ t u, ev x = .s (.iface t u) ∧ v = .s (.iface t u)
 | _ => False
theorem stp_iff {P : Program} {E : Env} {id : Nat} {st : AS} {d : Option Nat} {K : AS → Prop} {X : AV → Prop} {o : AOp} :
  stp P E id st d K X o ↔ (∃ r, Act1 P E id st.ev st.bx st.gr r o ∧ K (st.aft d r)) ∨ ∃ v, Pan1 E st.ev st.gr v o ∧ X v := by
 have q : ∀ o : AOp, o.quiet = true → (stp P E id st d K X o ↔ (∃ r, (∃ v, pv P st.ev st.bx st.gr o = some v ∧ r = (⟨v, st.bx, st.gr⟩ : Res)) ∧ K (st.aft d r)) ∨ ∃ v, False ∧ X v) := fun o h => by
  rw [stp_quiet h]
  constructor
  ·rintro ⟨v, h1, h2⟩; exact .inl ⟨_, ⟨v, h1, rfl⟩, h2⟩
  ·rintro (⟨_, ⟨v, h1, rfl⟩, h2⟩ | ⟨_, h, _⟩)
   ·exact ⟨v, h1, h2⟩
   ·exact h.elim
 have r : ∀ {o : AOp} {A : Res → Prop} {B : AV → Prop}, (∀ r, Act1 P E id st.ev st.bx st.gr r o ↔ A r) → (∀ v, Pan1 E st.ev st.gr v o ↔ B v) → (stp P E id st d K X o ↔ (∃ r, A r ∧ K (st.aft d r)) ∨ ∃ v, B v ∧ X v) →
   (stp P E id st d K X o ↔ (∃ r, Act1 P E id st.ev st.bx st.gr r o ∧ K (st.aft d r)) ∨ ∃ v, Pan1 E st.ev st.gr v o ∧ X v) := fun h1 h2 h3 => by simp only [h1, h2]; exact h3
 cases o
 case box x =>
  constructor
  ·rintro ⟨cs, h1, h2⟩; exact .inl ⟨_, ⟨cs, h1, rfl⟩, h2⟩
  ·rintro (⟨_, ⟨cs, h1, rfl⟩, h2⟩ | ⟨_, h, _⟩)
   ·exact ⟨cs, h1, h2⟩
   ·exact h.elim
 case alloc z =>
  constructor
  ·intro h; exact .inl ⟨_, rfl, h⟩
  ·rintro (⟨_, rfl, h2⟩ | ⟨_, h, _⟩)
   ·exact h2
   ·exact h.elim
 case st n p x =>
  simp only [stp, Act1, Pan1]
  generalize st.ev p = q
  cases q with
  | ptr b o =>
   constructor
   ·rintro ⟨cs, new, h2, h3, h4, h5, h6⟩; exact .inl ⟨_, ⟨cs, new, h2, h3, h4, h5, rfl⟩, h6⟩
   ·rintro (⟨_, ⟨cs, new, h2, h3, h4, h5, rfl⟩, h6⟩ | ⟨_, h, _⟩)
    ·exact ⟨cs, new, h2, h3, h4, h5, h6⟩
    ·exact h.elim
  | rptr k sz i o =>
   constructor
   ·rintro ⟨r, cs, new, h1, h2, h3, h4, h5, h6, h7, h8, h9⟩; exact .inl ⟨_, ⟨r, cs, new, h1, h2, h3, h4, h5, h6, h7, h8, rfl⟩, h9⟩
   ·rintro (⟨_, ⟨r, cs, new, h1, h2, h3, h4, h5, h6, h7, h8, rfl⟩, h9⟩ | ⟨_, h, _⟩)
    ·exact ⟨r, cs, new, h1, h2, h3, h4, h5, h6, h7, h8, h9⟩
    ·exact h.elim
  | _ =>
   constructor
   ·exact fun h => h.elim
   ·rintro (⟨_, h, _⟩ | ⟨_, h, _⟩) <;> exact h.elim
 case bs e sz ps =>
  constructor
  ·rintro ⟨cs, h1, h0, h2⟩; exact .inl ⟨_, ⟨cs, h1, h0, rfl⟩, h2⟩
  ·rintro (⟨_, ⟨cs, h1, h0, rfl⟩, h2⟩ | ⟨_, h, _⟩)
   ·exact ⟨cs, h1, h0, h2⟩
   ·exact h.elim
 case ap e sz bytes x y =>
  constructor
  ·rintro ⟨k, xs, ys, h1, h2, h3, h4, h5⟩; exact .inl ⟨_, ⟨k, xs, ys, h1, h2, h3, h4, rfl⟩, h5⟩
  ·rintro (⟨_, ⟨k, xs, ys, h1, h2, h3, h4, rfl⟩, h5⟩ | ⟨_, h, _⟩)
   ·exact ⟨k, xs, ys, h1, h2, h3, h4, h5⟩
   ·exact h.elim
 case call f xs =>
  constructor
  ·rintro ⟨out, h1, h0, h2⟩
   cases out with
   | ret v => exact .inl ⟨_, ⟨v, h1, h0, rfl⟩, h2⟩
   | pan v => exact .inr ⟨v, ⟨h1, h0⟩, h2⟩
  ·rintro (⟨_, ⟨v, h1, h0, rfl⟩, h2⟩ | ⟨v, ⟨h1, h0⟩, h2⟩)
   ·exact ⟨.ret v, h1, h0, h2⟩
   ·exact ⟨.pan v, h1, h0, h2⟩
 case pan x =>
  constructor
  ·rintro ⟨t, u, h1, h2⟩; exact .inr ⟨_, ⟨t, u, h1, rfl⟩, h2⟩
  ·rintro (⟨_, h, _⟩ | ⟨_, ⟨t, u, h1, rfl⟩, h2⟩)
   ·exact h.elim
   ·exact ⟨t, u, h1, h2⟩
 all_goals exact q _ rfl
end Go.Proofs.YthdkjfhpbigdpaaDoor.Ev

namespace Go.Proofs.YthdkjfhpbigdpaaDoor.Ev
open Go Go.RowKit
set_option linter.unusedSimpArgs false
set_option linter.unusedVariables false

def ActG (P : Program) (E : Env) (id : Nat) (o : AOper) (b : Bool) (ev : Operand → AV) (bx : Nat → Option (List AV)) (gr : Gr) (r : Res) : Prop :=
 if b then Act1 P E id ev bx gr r o.op else r = ⟨.tup [], bx, gr⟩
def Step1 (P : Program) (E : Env) (id : Nat) (st st' : AS) (o : AOper) : Prop := ∃ b r, want st o.g = some b ∧ ActG P E id o b st.ev st.bx st.gr r ∧ st' = st.aft o.d r
def PanG (E : Env) (st : AS) (v : AV) (o : AOper) : Prop := want st o.g = some true ∧ Pan1 E st.ev st.gr v o.op
theorem stpG_iff {P : Program} {E : Env} {id : Nat} {st : AS} {K : AS → Prop} {X : AV → Prop} {o : AOper} : stpG P E id st K X o ↔ (∃ st', Step1 P E id st st' o ∧ K st') ∨ ∃ v, PanG E st v o ∧ X v := by
 unfold stpG Step1 PanG ActG
 constructor
 ·rintro ⟨b, hb, h⟩
  cases b with
  | false => exact .inl ⟨_, ⟨false, _, hb, rfl, rfl⟩, h⟩
  | true =>
   rcases stp_iff.1 h with ⟨r, h1, h2⟩ | ⟨v, h1, h2⟩
   ·exact .inl ⟨_, ⟨true, r, hb, h1, rfl⟩, h2⟩
   ·exact .inr ⟨v, ⟨hb, h1⟩, h2⟩
 ·rintro (⟨_, ⟨b, r, hb, h1, rfl⟩, h2⟩ | ⟨v, ⟨hb, h1⟩, h2⟩)
  ·cases b with
   | false => simp only [Bool.false_eq_true, if_false] at h1; subst h1; exact ⟨false, hb, h2⟩
   | true => exact ⟨true, hb, stp_iff.2 (.inl ⟨r, h1, h2⟩)⟩
  ·exact ⟨true, hb, stp_iff.2 (.inr ⟨v, h1, h2⟩)⟩
structure Eff where
 v : AV
 b : Option (List AV)
 k : Option Nat
 ks : List Nat
 n : Option GR
def Eff.bxs (e : Eff) (id : Nat) (bx : Nat → Option (List AV)) : Nat → Option (List AV) := match e.b with | some c => upd bx id (some c) | none => bx
def Eff.grs (e : Eff) (id : Nat) (gr : Gr) : Gr := match e.n with | some y => upd (shut (killT gr e.k) e.ks) id (some y) | none => shut (killT gr e.k) e.ks
def Eff.res (e : Eff) (id : Nat) (bx : Nat → Option (List AV)) (gr : Gr) : Res := ⟨e.v, e.bxs id bx, e.grs id gr⟩
def Eff.pure (v : AV) : Eff := ⟨v, none, none, [], none⟩
def GR.core (r : GR) : TypeId × Nat × List (List AV) := (r.e, r.sz, r.xs)
def SameX (a b : Option GR) : Prop := a.map GR.core = b.map GR.core
def refA : AV → List Nat
 | .rptr k _ _ _ => [k]
 | a => refs a
theorem SameX.xs {a b : Option GR} (h : SameX a b) : a.map (·.xs) = b.map (·.xs) := by
 unfold SameX at h
 cases a <;> cases b <;> simp_all [GR.core]
theorem SameX.isSome {a b : Option GR} (h : SameX a b) : a.isSome = b.isSome := by
 unfold SameX at h
 cases a <;> cases b <;> simp_all
theorem rowOf_same {gr gr' : Gr} {x : AV} (h : ∀ k ∈ refC x, SameX (gr' k) (gr k)) : rowOf gr' x = rowOf gr x := by
 cases x <;> try rfl
 case s x => cases x <;> first|rfl | (rename_i p n m; cases p <;> cases n <;> cases m <;> rfl)
 case ref k =>
  have := (h k (by simp [refC])).xs
  simp only [rowOf]
  revert this
  cases gr' k <;> cases gr k <;> simp
theorem refC_mem {x : AV} {k : Nat} (h : k ∈ refC x) : x = .ref k := by cases x <;> simp [refC] at h; rw [h]
theorem refA_refs {x : AV} {k : Nat} (h : k ∈ refs x) : k ∈ refA x := by cases x <;> first|exact h|(simp [refs, refC] at h)
theorem refA_of {x : AV} {k : Nat} (h : k ∈ refC x) : k ∈ refA x := by rw [refC_mem h]; simp [refA, refs, refC]
theorem pcell_same {gr gr' : Gr} {x : AV} (h : ∀ k ∈ refC x, SameX (gr' k) (gr k)) : pcell gr' x = pcell gr x := by
 cases x <;> try rfl
 case s x => cases x <;> first|rfl | (rename_i p n m; cases p <;> cases n <;> cases m <;> rfl)
 case ref k =>
  have := (h k (by simp [refC])).xs
  simp only [pcell]
  revert this
  cases gr' k <;> cases gr k <;> simp
theorem strip_same {gr gr' : Gr} {x : AV} (h : ∀ k ∈ refs x, SameX (gr' k) (gr k)) : strip gr' x = strip gr x := by
 cases x <;> simp only [strip] <;> first|rfl|exact pcell_same (fun k hk => h k (by simpa [refs] using hk)) | skip
 rename_i cs
 rw [List.map_congr_left fun y hy => pcell_same fun k hk => h k (by simp only [refs]; exact List.mem_flatMap.2 ⟨y, hy, hk⟩)]
theorem elemsOf_same {gr gr' : Gr} {sz : Nat} : ∀ {l : List AV}, (∀ k ∈ l.flatMap refs, SameX (gr' k) (gr k)) → elemsOf gr' sz l = elemsOf gr sz l
 | [], _ => rfl
 | v :: r, h => by
  simp only [elemsOf]
  rw [strip_same fun k hk => h k (by simp [hk]), elemsOf_same fun k hk => h k (by simp only [List.flatMap_cons]; exact List.mem_append_right _ hk)]
theorem here_same {gr gr' : Gr} {ks : List Nat} (h : ∀ k ∈ ks, SameX (gr' k) (gr k)) : here gr' ks = here gr ks := by
 unfold here
 induction ks with
 | nil => rfl
 | cons k ks ih => simp only [List.all_cons]; rw [(h k (List.mem_cons_self ..)).isSome, ih fun k hk => h k (List.mem_cons_of_mem _ hk)]
theorem here_mem {gr : Gr} {ks : List Nat} (h : here gr ks = true) : ∀ k ∈ ks, gr k ≠ none := fun k hk e => by
 have := List.all_eq_true.1 h k hk
 rw [e] at this; cases this

inductive Kind (P : Program) (E : Env) (id : Nat) (o : AOper) (b : Bool) (ev : Operand → AV) (bx : Nat → Option (List AV)) (gr : Gr) (r : Res) : Prop
 | A (e : Eff) (N BR : List Nat) : r = e.res id bx gr → (∀ k ∈ N, gr k ≠ none ∧ ∃ x ∈ o.op.opds, k ∈ refA (ev x)) → (∀ q ∈ BR, ∃ x ∈ o.op.opds, ∃ f, ev x = .ptr q f) →
   (∀ k, e.k = some k → k ∈ N ∧ ∃ y, gr k = some y ∧ y.live = true) → (∀ k ∈ e.ks, k ∈ N) →
   (∀ ev' bx' gr', (∀ x ∈ o.op.opds, ev' x = ev x) → (∀ q ∈ BR, bx' q = bx q) → (∀ k ∈ N, SameX (gr' k) (gr k)) → (∀ k, e.k = some k → gr' k = gr k) → ActG P E id o b ev' bx' gr' (e.res id bx' gr')) →
   (e.k ≠ none → o.op.cls = 6) → (∀ k ∈ N, k ∈ e.ks ∨ o.op.cls = 1 ∨ o.op.cls = 6) → (o.op.cls = 0 → e = .pure e.v ∧ N = [] ∧ BR = []) → o.op.cls ≠ 4 ∨ e = .pure e.v ∧ N = [] ∧ BR = [] → Kind P E id o b ev bx gr r
 | D : o.op.cls = 4 → (∀ ev', (∀ x ∈ o.op.opds, ev' x = ev x) → ActG P E id o b ev' bx gr r) → Kind P E id o b ev bx gr r
section
variable {P : Program} {E : Env} {id : Nat} {b : Bool} {ev : Operand → AV} {bx : Nat → Option (List AV)} {gr : Gr} {r : Res} {d : Option Nat} {gd : Option (Nat × Bool)} {op : AOp}
theorem shut_nil {gr : Gr} : shut gr [] = gr := funext fun k => if_neg (by simp)
theorem pure_res {v : AV} : (Eff.pure v).res id bx gr = ⟨v, bx, gr⟩ := by simp [Eff.res, Eff.pure, Eff.bxs, Eff.grs, killT, shut_nil]
theorem kind_q (h : Act1 P E id ev bx gr r op) (hq : op.quiet = true) (N BR : List Nat) (h1 : ∀ k ∈ N, gr k ≠ none ∧ ∃ x ∈ op.opds, k ∈ refA (ev x)) (h2 : ∀ q ∈ BR, ∃ x ∈ op.opds, ∃ f, ev x = .ptr q f) (h3 : ∀ k ∈ N, op.cls = 1)
  (h4 : op.cls = 0 → N = [] ∧ BR = []) (hc : op.cls ≠ 4) (hs : ∀ ev' bx' gr', (∀ x ∈ op.opds, ev' x = ev x) → (∀ q ∈ BR, bx' q = bx q) → (∀ k ∈ N, SameX (gr' k) (gr k)) → pv P ev' bx' gr' op = pv P ev bx gr op) : Kind P E id ⟨d, gd, op⟩ true ev bx gr r := by
 have e : Act1 P E id ev bx gr r op = ∃ v, pv P ev bx gr op = some v ∧ r = ⟨v, bx, gr⟩ := by cases op <;> first|rfl | (cases hq)
 rw [e] at h
 obtain ⟨v, hv, rfl⟩ := h
 have f : ∀ ev' bx' gr' v, pv P ev' bx' gr' op = some v → Act1 P E id ev' bx' gr' ⟨v, bx', gr'⟩ op := fun ev' bx' gr' v hv => by cases op <;> first|exact ⟨v, hv, rfl⟩ | (cases hq)
 refine .A (.pure v) N BR pure_res.symm h1 h2 (by simp [Eff.pure]) (by simp [Eff.pure]) (fun ev' bx' gr' he hb hg _ => ?_) (by simp [Eff.pure]) (fun k hk => .inr (.inl (h3 k hk))) (fun h0 => ⟨rfl, h4 h0⟩) (.inl hc)
 rw [pure_res]
 exact f _ _ _ _ (by rw [hs ev' bx' gr' he hb hg]; exact hv)
theorem kind {o : AOper} (h : ActG P E id o b ev bx gr r) : Kind P E id o b ev bx gr r := by
 cases b with
 | false =>
  have e : r = ⟨.tup [], bx, gr⟩ := h
  subst e
  refine .A (.pure (.tup [])) [] [] pure_res.symm (by simp) (by simp) (by simp [Eff.pure]) (by simp [Eff.pure]) (fun ev' bx' gr' _ _ _ _ => ?_) (by simp [Eff.pure]) (by simp) (fun _ => ⟨rfl, rfl, rfl⟩) (.inr ⟨rfl, rfl, rfl⟩)
  rw [pure_res]; rfl
 | true =>
  replace h : Act1 P E id ev bx gr r o.op := h
  obtain ⟨d, gd, op⟩ := o
  dsimp only at h
  cases op
  case ld ag n x =>
   have hv : ∃ v, pv P ev bx gr (.ld ag n x) = some v := by obtain ⟨v, hv, _⟩ := h; exact ⟨v, hv⟩
   cases hx : ev x with
   | ptr q f =>
    refine kind_q h rfl [] [q] (by simp) (by simp [AOp.opds, hx]) (by simp) (by simp [AOp.cls]) (by simp [AOp.cls]) fun ev' bx' gr' he hb hg => ?_
    simp only [pv, he x (by simp [AOp.opds]), hx, hb q (by simp)]
   | rptr k sz i f =>
    have hk : gr k ≠ none := fun e => by obtain ⟨v, hv⟩ := hv; simp [pv, hx, e] at hv
    refine kind_q h rfl [k] [] (by simpa [AOp.opds, hx, refA] using hk) (by simp) (by simp [AOp.cls]) (by simp [AOp.cls]) (by simp [AOp.cls]) fun ev' bx' gr' he hb hg => ?_
    have hsx := hg k (by simp)
    simp only [pv, he x (by simp [AOp.opds]), hx]
    unfold SameX at hsx
    revert hsx
    cases gr' k <;> cases gr k <;> simp [GR.core]
    rintro _ h1 h2; rw [h1, h2]
   | _ =>
    refine kind_q h rfl [] [] (by simp) (by simp) (by simp) (by simp) (by simp [AOp.cls]) fun ev' bx' gr' he hb hg => ?_
    simp only [pv, he x (by simp [AOp.opds]), hx]
  case ia sz x i =>
   have hv : ∃ v, pv P ev bx gr (.ia sz x i) = some v := by obtain ⟨v, hv, _⟩ := h; exact ⟨v, hv⟩
   cases hx : ev x with
   | ref k =>
    have hk : gr k ≠ none := fun e => by obtain ⟨v, hv⟩ := hv; simp [pv, hx, e] at hv
    refine kind_q h rfl [k] [] (by intro q hq; simp at hq; subst hq; exact ⟨hk, x, by simp [AOp.opds], by rw [hx]; simp [refA, refs, refC]⟩) (by simp) (by simp [AOp.cls]) (by simp [AOp.cls]) (by simp [AOp.cls]) fun ev' bx' gr' he hb hg => ?_
    have hsx := hg k (by simp)
    simp only [pv, he x (by simp [AOp.opds]), he i (by simp [AOp.opds]), hx]
    unfold SameX at hsx
    revert hsx
    cases gr' k <;> cases gr k <;> simp [GR.core]
    rintro _ h1 h2; cases idxOf (ev i) <;> simp [h1, h2]
   | _ =>
    refine kind_q h rfl [] [] (by simp) (by simp) (by simp) (by simp) (by simp [AOp.cls]) fun ev' bx' gr' he hb hg => ?_
    simp only [pv, he x (by simp [AOp.opds]), he i (by simp [AOp.opds]), hx]
  case ln x =>
   have hv : ∃ v, pv P ev bx gr (.ln x) = some v := by obtain ⟨v, hv, _⟩ := h; exact ⟨v, hv⟩
   refine kind_q h rfl (refC (ev x)) [] (fun k hk => ⟨fun e => ?_, x, by simp [AOp.opds], refA_of hk⟩) (by simp) (by simp [AOp.cls]) (by simp [AOp.cls]) (by simp [AOp.cls]) fun ev' bx' gr' he hb hg => ?_
   ·obtain ⟨v, hv⟩ := hv
    simp [pv, refC_mem hk, rowOf, e] at hv
   ·simp only [pv, he x (by simp [AOp.opds])]
    rw [rowOf_same hg]
  case bts x =>
   have hv : ∃ v, pv P ev bx gr (.bts x) = some v := by obtain ⟨v, hv, _⟩ := h; exact ⟨v, hv⟩
   refine kind_q h rfl (refC (ev x)) [] (fun k hk => ⟨fun e => ?_, x, by simp [AOp.opds], refA_of hk⟩) (by simp) (by simp [AOp.cls]) (by simp [AOp.cls]) (by simp [AOp.cls]) fun ev' bx' gr' he hb hg => ?_
   ·obtain ⟨v, hv⟩ := hv
    simp [pv, refC_mem hk, rowOf, e] at hv
   ·simp only [pv, he x (by simp [AOp.opds])]
    rw [rowOf_same hg]
  case box x =>
   obtain ⟨cs, h1, rfl⟩ := h
   refine .A ⟨.ptr id 0, some cs, none, [], none⟩ [] [] (by simp [Eff.res, Eff.bxs, Eff.grs, killT, shut_nil]) (by simp) (by simp) (by simp) (by simp) (fun ev' bx' gr' he _ _ _ => ?_) (by simp) (by simp) (by simp [AOp.cls]) (.inl (by simp [AOp.cls]))
   exact ⟨cs, by rw [he x (by simp [AOp.opds])]; exact h1, by simp [Eff.res, Eff.bxs, Eff.grs, killT, shut_nil]⟩
  case alloc z =>
   obtain rfl := h
   refine .A ⟨.ptr id 0, some (z.map .s), none, [], none⟩ [] [] (by simp [Eff.res, Eff.bxs, Eff.grs, killT, shut_nil]) (by simp) (by simp) (by simp) (by simp) (fun ev' bx' gr' he _ _ _ => ?_) (by simp) (by simp) (by simp [AOp.cls]) (.inl (by simp [AOp.cls]))
   show _ = _
   simp [Eff.res, Eff.bxs, Eff.grs, killT, shut_nil]
  case st n p x =>
   refine .D rfl fun ev' he => ?_
   have : Act1 P E id ev' bx gr r (.st n p x) := by
    simp only [Act1, he p (by simp [AOp.opds]), he x (by simp [AOp.opds])]
    exact h
   exact this
  case bs e sz ps =>
   obtain ⟨xs, h1, h0, rfl⟩ := h
   refine .A ⟨.ref id, none, none, (ps.map ev).flatMap refs, some ⟨e, sz, xs, true⟩⟩ ((ps.map ev).flatMap refs) [] (by simp [Eff.res, Eff.bxs, Eff.grs, killT]) (fun k hk => ⟨here_mem h0 k hk, ?_⟩) (by simp) (by simp) (fun k hk => hk) (fun ev' bx' gr' he _ hg _ => ?_) (by simp) (fun k hk => .inl hk) (by simp [AOp.cls]) (.inl (by simp [AOp.cls]))
   ·obtain ⟨y, hy, hk⟩ := List.mem_flatMap.1 hk
    obtain ⟨x, hx, rfl⟩ := List.mem_map.1 hy
    exact ⟨x, hx, refA_refs hk⟩
   ·have hm : ps.map ev' = ps.map ev := List.map_congr_left he
    refine ⟨xs, by rw [hm, elemsOf_same hg]; exact h1, by rw [hm, here_same hg]; exact h0, by simp [Eff.res, Eff.bxs, Eff.grs, killT, hm]⟩
  case ap e sz bytes x y =>
   obtain ⟨k, xs, ys, h1, h2, h3, h4, rfl⟩ := h
   have hk : ∀ k', k = some k' → ev x = .ref k' ∧ ∃ y, gr k' = some y ∧ y.live = true := fun k' hk => by
    subst hk
    unfold growOf at h1
    split at h1
    ·cases h1
    ·rename_i heq
     split at h1
     ·rename_i r hr
      split at h1
      ·rename_i hc; cases h1; exact ⟨heq, r, hr, hc.2.2⟩
      ·cases h1
     ·cases h1
    ·cases h1
   refine .A ⟨.ref id, none, k, [], some ⟨e, sz, xs ++ ys, true⟩⟩ (k.toList ++ refC (ev y)) [] (by simp [Eff.res, Eff.bxs, Eff.grs, shut_nil]) (fun q hq => ?_) (by simp) (fun k' hk' => ⟨by simp [show k = some k' from hk'], (hk k' hk').2⟩) (by simp) (fun ev' bx' gr' he _ hg hk' => ?_) (by simp [AOp.cls]) (by simp [AOp.cls]) (by simp [AOp.cls]) (.inl (by simp [AOp.cls]))
   ·rcases List.mem_append.1 hq with hq | hq
    ·have hq' : k = some q := by simpa using hq
     obtain ⟨a1, z, a2, _⟩ := hk q hq'
     exact ⟨by rw [a2]; simp, x, by simp [AOp.opds], by rw [a1]; simp [refA, refs, refC]⟩
    ·refine ⟨fun e => ?_, y, by simp [AOp.opds], refA_of hq⟩
     rw [refC_mem hq] at h2; simp [rowOf, e] at h2
   ·refine ⟨k, xs, ys, ?_, by rw [he y (by simp [AOp.opds]), rowOf_same fun q hq => hg q (List.mem_append_right _ hq)]; exact h2, h3, h4, by simp [Eff.res, Eff.bxs, Eff.grs, shut_nil]⟩
    rw [he x (by simp [AOp.opds])]
    cases k with
    | none =>
     unfold growOf at h1 ⊢
     split at h1
     ·exact h1
     ·split at h1
      ·split at h1 <;> cases h1
      ·cases h1
     ·cases h1
    | some k' =>
     rw [(hk k' rfl).1] at h1 ⊢
     simp only [growOf] at h1 ⊢
     rw [hk' k' rfl]; exact h1
  case call f xs =>
   obtain ⟨v, h1, h0, rfl⟩ := h
   refine .A ⟨v, none, none, (xs.map ev).flatMap refs, none⟩ ((xs.map ev).flatMap refs) [] (by simp [Eff.res, Eff.bxs, Eff.grs, killT]) (fun k hk => ⟨here_mem h0 k hk, ?_⟩) (by simp) (by simp) (fun k hk => hk) (fun ev' bx' gr' he _ hg _ => ?_) (by simp) (fun k hk => .inl hk) (by simp [AOp.cls]) (.inl (by simp [AOp.cls]))
   ·obtain ⟨y, hy, hk⟩ := List.mem_flatMap.1 hk
    obtain ⟨x, hx, rfl⟩ := List.mem_map.1 hy
    exact ⟨x, hx, refA_refs hk⟩
   ·have hm : xs.map ev' = xs.map ev := List.map_congr_left he
    have hst : (xs.map fun x => strip gr' (ev' x)) = xs.map fun x => strip gr (ev x) := List.map_congr_left fun x hx => by
     rw [he x hx, strip_same fun k hk => hg k (List.mem_flatMap.2 ⟨ev x, List.mem_map_of_mem hx, hk⟩)]
    exact ⟨v, by rw [hst]; exact h1, by rw [hm, here_same hg]; exact h0, by simp [Eff.res, Eff.bxs, Eff.grs, killT, hm]⟩
  case pan x => exact h.elim
  all_goals exact kind_q h rfl [] [] (by simp) (by simp) (by simp) (by simp) (by simp [AOp.cls]) fun ev' bx' gr' he hb hg => by rw [pv_congr he]; exact pv_bx (by simp [AOp.cls])
end
end Go.Proofs.YthdkjfhpbigdpaaDoor.Ev

namespace Go.Proofs.YthdkjfhpbigdpaaDoor.Ev
open Go Go.RowKit
set_option linter.unusedSimpArgs false
set_option linter.unusedVariables false

def Fresh (fr : Nat → Prop) (st : AS) : Prop := (∀ x b o, st.ev x = .ptr b o → ¬ fr b) ∧ ∀ x, ∀ k ∈ refA (st.ev x), ¬ fr k
theorem aft_ev {st : AS} {d : Option Nat} {r : Res} {l : List Operand} (h : ∀ i, d = some i → i ∉ tmpsOf l) : ∀ x ∈ l, (st.aft d r).ev x = st.ev x := fun x hx => by
 cases d with
 | none => cases x <;> rfl
 | some i =>
  cases x with
  | tmp t =>
   have : t ≠ i := fun e => h i rfl (List.mem_filterMap.2 ⟨.tmp t, hx, by rw [e]⟩)
   simp [AS.aft, AS.put, AS.ev, this]
  | _ => rfl
theorem aft_want {st : AS} {d : Option Nat} {r : Res} {g : Option (Nat × Bool)} (h : ∀ i, d = some i → ∀ t b, g = some (t, b) → t ≠ i) : want (st.aft d r) g = want st g := by
 cases g with
 | none => rfl
 | some tb =>
  obtain ⟨t, b⟩ := tb
  have : (st.aft d r).t t = st.t t := by
   cases d with
   | none => rfl
   | some i => simp [AS.aft, AS.put, h i rfl t b rfl]
  simp only [want, this]
theorem apart_spec {x y : AOper} (h : apart x y = true) : (∀ i, x.d = some i → i ∉ y.reads) ∧ (∀ i, x.d = some i → y.d ≠ some i) ∧ (∀ i, y.d = some i → i ∉ x.reads) ∧ clsOk x.op.cls y.op.cls = true := by
 unfold apart at h
 simp only [Bool.and_eq_true] at h
 obtain ⟨⟨h1, h2⟩, h3⟩ := h
 refine ⟨fun i hi => ?_, fun i hi => ?_, fun i hi => ?_, h3⟩
 ·simp [hi] at h1; exact h1.1
 ·simp [hi] at h1; exact h1.2
 ·simp [hi] at h2; exact h2
theorem reads_op {o : AOper} {d : Option Nat} (h : ∀ i, d = some i → i ∉ o.reads) : (∀ i, d = some i → i ∉ tmpsOf o.op.opds) ∧ ∀ i, d = some i → ∀ t b, o.g = some (t, b) → t ≠ i := by
 refine ⟨fun i hi hm => h i hi (List.mem_append_right _ hm), fun i hi t b hg he => h i hi ?_⟩
 unfold AOper.reads
 rw [hg, he]
 simp
theorem aft_comm {st : AS} {di dj : Option Nat} {vi vj : AV} {b1 b2 b3 : Nat → Option (List AV)} {l1 l2 l3 : Gr} (h : ∀ i, di = some i → dj ≠ some i) :
  (st.aft dj ⟨vj, b1, l1⟩).aft di ⟨vi, b2, l2⟩ = (st.aft di ⟨vi, b3, l3⟩).aft dj ⟨vj, b2, l2⟩ := by
 cases di <;> cases dj <;> try rfl
 rename_i i j
 have : j ≠ i := fun e => h i rfl (by rw [e])
 simp only [AS.aft, AS.put]
 congr 1
 funext k
 by_cases hk : k = i
 ·subst hk; rw [if_pos rfl]; rw [if_neg (Ne.symm this)]; rw [if_pos rfl]
 ·rw [if_neg hk]
  by_cases hk' : k = j
  ·rw [if_pos hk', if_pos hk']
  ·rw [if_neg hk', if_neg hk', if_neg hk]
theorem aft_bx (st : AS) (d : Option Nat) (r : Res) : (st.aft d r).bx = r.bx := by cases d <;> rfl
theorem aft_gr (st : AS) (d : Option Nat) (r : Res) : (st.aft d r).gr = r.gr := by cases d <;> rfl
theorem upd_comm {α : Type} {f : Nat → Option α} {i j : Nat} {a b : Option α} (h : i ≠ j) : upd (upd f i a) j b = upd (upd f j b) i a := by
 funext k; unfold upd; split <;> split <;> first|rfl | (subst_vars; exact absurd rfl h)
theorem upd_ne {α : Type} {f : Nat → Option α} {i j : Nat} {a : Option α} (h : j ≠ i) : upd f i a j = f j := if_neg h
theorem Eff.bxs_ne {e : Eff} {id q : Nat} {bx : Nat → Option (List AV)} (h : q ≠ id) : e.bxs id bx q = bx q := by
 unfold Eff.bxs
 cases e.b with
 | some c => exact upd_ne h
 | none => rfl
theorem Eff.grs_ne {e : Eff} {id k : Nat} {gr : Gr} (h : k ≠ id) : e.grs id gr k = if k ∈ e.ks then (killT gr e.k k).map GR.shut else killT gr e.k k := by
 unfold Eff.grs
 cases e.n with
 | some y => show upd _ _ _ k = _; rw [upd_ne h]; rfl
 | none => rfl
theorem killT_ne {gr : Gr} {a : Option Nat} {k : Nat} (h : a ≠ some k) : killT gr a k = gr k := by
 cases a with
 | none => rfl
 | some j => exact upd_ne fun e => h (by rw [e])
theorem killT_hit {gr : Gr} {k : Nat} : killT gr (some k) k = none := if_pos rfl
theorem same_refl (a : Option GR) : SameX a a := rfl
theorem same_shut (a : Option GR) : SameX (a.map GR.shut) a := by cases a <;> rfl
section
variable {P : Program} {E : Env} {fr : Nat → Prop} {st s1 s2 : AS} {i j : Nat} {oi oj : AOper}
theorem comm (hap : apart oi oj = true) (hF : Fresh fr st) (hi : fr i) (hj : fr j) (hij : i ≠ j) (h1 : Step1 P E j st s1 oj) (h2 : Step1 P E i s1 s2 oi) :
  ∃ s1', Step1 P E i st s1' oi ∧ Step1 P E j s1' s2 oj := by
 obtain ⟨a1, a2, a3, a4⟩ := apart_spec hap
 obtain ⟨bj, rj, wj, cj, rfl⟩ := h1
 obtain ⟨bi, ri, wi, ci, rfl⟩ := h2
 obtain ⟨ri1, ri2⟩ := reads_op a3
 obtain ⟨rj1, rj2⟩ := reads_op a1
 rw [aft_want ri2] at wi
 have evi : ∀ x ∈ oi.op.opds, st.ev x = (st.aft oj.d rj).ev x := fun x hx => (aft_ev ri1 x hx).symm
 have goj : ∀ (ri' : Res) (rj' : Res), ActG P E i oi bi st.ev st.bx st.gr ri' → ActG P E j oj bj (st.aft oi.d ri').ev ri'.bx ri'.gr rj' → (st.aft oj.d rj).aft oi.d ri = (st.aft oi.d ri').aft oj.d rj' →
   ∃ s1', Step1 P E i st s1' oi ∧ Step1 P E j s1' ((st.aft oj.d rj).aft oi.d ri) oj := fun ri' rj' x y z =>
  ⟨_, ⟨bi, ri', wi, x, rfl⟩, bj, rj', by rw [aft_want rj2]; exact wj, by rw [aft_bx, aft_gr]; exact y, z⟩
 have goj' : ∀ {s2 : AS} (ri' : Res) (rj' : Res), ActG P E i oi bi st.ev st.bx st.gr ri' → ActG P E j oj bj (st.aft oi.d ri').ev ri'.bx ri'.gr rj' → s2 = (st.aft oi.d ri').aft oj.d rj' →
   ∃ s1', Step1 P E i st s1' oi ∧ Step1 P E j s1' s2 oj := fun ri' rj' x y z =>
  ⟨_, ⟨bi, ri', wi, x, rfl⟩, bj, rj', by rw [aft_want rj2]; exact wj, by rw [aft_bx, aft_gr]; exact y, z⟩
 have evj : ∀ (r : Res), ∀ x ∈ oj.op.opds, (st.aft oi.d r).ev x = st.ev x := fun r => aft_ev rj1
 rw [aft_bx, aft_gr] at ci
 cases kind cj with
 | A ej Nj Bj ej' nj1 bj1 kj1 kj2 mj sj1 sj2 sj3 sj4 =>
  subst ej'
  have hjne : ∀ k ∈ Nj, k ≠ i ∧ k ≠ j := fun k hk => by
   obtain ⟨_, x, hx, hm⟩ := nj1 k hk
   have := hF.2 x k hm
   exact ⟨fun e => this (by rw [e]; exact hi), fun e => this (by rw [e]; exact hj)⟩
  have hbne : ∀ q ∈ Bj, q ≠ i := fun q hq e => by
   obtain ⟨x, hx, f, hf⟩ := bj1 q hq
   exact hF.1 x q f hf (by rw [e]; exact hi)
  cases kind ci with
  | A ei Ni Bi ei' ni1 bi1 ki1 ki2 mi si1 si2 si3 si4 =>
   subst ei'
   simp only [Eff.res] at ni1 ki1 mi ⊢
   have hine : ∀ k ∈ Ni, k ≠ i ∧ k ≠ j := fun k hk => by
    obtain ⟨_, x, hx, hm⟩ := ni1 k hk
    have hm' : k ∈ refA (st.ev x) := by rw [evi x hx]; exact hm
    have := hF.2 x k hm'
    exact ⟨fun e => this (by rw [e]; exact hi), fun e => this (by rw [e]; exact hj)⟩
   have hibne : ∀ q ∈ Bi, q ≠ j := fun q hq e => by
    obtain ⟨x, hx, f, hf⟩ := bi1 q hq
    have hf' : st.ev x = .ptr q f := by rw [evi x hx]; exact hf
    exact hF.1 x q f hf' (by rw [e]; exact hj)
   have hnk : ∀ k ∈ Ni, ej.k ≠ some k := fun k hk e => by
    obtain ⟨h0, _⟩ := ni1 k hk
    rw [Eff.grs_ne (hine k hk).2, e, killT_hit] at h0
    split at h0 <;> exact h0 rfl
   have hsame : ∀ k ∈ Ni, SameX (st.gr k) (ej.grs j st.gr k) := fun k hk => by
    rw [Eff.grs_ne (hine k hk).2, killT_ne (hnk k hk)]
    split
    ·exact (same_shut _).symm
    ·exact same_refl _
   have hki : ∀ k, ei.k = some k → ej.grs j st.gr k = st.gr k ∧ k ∉ ej.ks := fun k hk => by
    obtain ⟨hN, y, hy, hl⟩ := ki1 k hk
    rw [Eff.grs_ne (hine k hN).2, killT_ne (hnk k hN)] at hy ⊢
    split at hy
    ·rename_i hm
     cases hg : st.gr k with
     | none => rw [hg] at hy; cases hy
     | some z => rw [hg] at hy; cases hy; cases hl
    ·rename_i hm; exact ⟨by rw [if_neg hm], hm⟩
   have hkN : ∀ k, ei.k = some k → k ∉ Nj := fun k hk hm => by
    rcases sj2 k hm with h | h | h
    ·exact (hki k hk).2 h
    ·simp [clsOk, si1 (by rw [hk]; simp), h] at a4
    ·simp [clsOk, si1 (by rw [hk]; simp), h] at a4
   refine goj ⟨ei.v, ei.bxs i st.bx, ei.grs i st.gr⟩ ⟨ej.v, ej.bxs j (ei.bxs i st.bx), ej.grs j (ei.grs i st.gr)⟩ (mi _ _ _ evi (fun q hq => (Eff.bxs_ne (hibne q hq)).symm) hsame fun k hk => (hki k hk).1.symm)
    (mj _ _ _ (evj _) (fun q hq => Eff.bxs_ne (hbne q hq)) (fun k hk => ?_) fun k hk => ?_) ?_
   ·show SameX (ei.grs i st.gr k) _
    rw [Eff.grs_ne (hjne k hk).1, killT_ne fun e => hkN k e hk]
    split
    ·exact same_shut _
    ·exact same_refl _
   ·show ei.grs i st.gr k = _
    have hkj := (kj1 k hk).1
    rw [Eff.grs_ne (hjne k hkj).1, killT_ne fun e => hkN k e hkj, if_neg fun hm => hnk k (ki2 k hm) hk]
   ·have e1 : ei.bxs i (ej.bxs j st.bx) = ej.bxs j (ei.bxs i st.bx) := by
     unfold Eff.bxs
     cases ei.b <;> cases ej.b <;> first|rfl|exact upd_comm (Ne.symm hij)
    have e2 : ei.grs i (ej.grs j st.gr) = ej.grs j (ei.grs i st.gr) := by
     funext k
     by_cases hki' : k = i
     ·subst hki'
      rw [Eff.grs_ne (e := ej) hij]
      have hnj : k ∉ ej.ks := fun hm => (hjne k (kj2 k hm)).1 rfl
      have hnk' : ej.k ≠ some k := fun e => (hjne k (kj1 k e).1).1 rfl
      rw [if_neg hnj, killT_ne hnk']
      unfold Eff.grs
      cases ei.n with
      | some y => simp [upd]
      | none =>
       simp only
       have hni : k ∉ ei.ks := fun hm => (hine k (ki2 k hm)).1 rfl
       have hnk'' : ei.k ≠ some k := fun e => (hine k (ki1 k e).1).1 rfl
       unfold shut
       rw [if_neg hni, killT_ne hnk'', if_neg hni, killT_ne hnk'']
       have : ej.grs j st.gr k = st.gr k := by rw [Eff.grs_ne hij, if_neg hnj, killT_ne hnk']
       unfold Eff.grs shut at this
       exact this
     ·by_cases hkj' : k = j
      ·subst hkj'
       rw [Eff.grs_ne (e := ei) hki']
       have hni : k ∉ ei.ks := fun hm => (hine k (ki2 k hm)).2 rfl
       have hnk' : ei.k ≠ some k := fun e => (hine k (ki1 k e).1).2 rfl
       rw [if_neg hni, killT_ne hnk']
       unfold Eff.grs
       cases ej.n with
       | some y => simp [upd]
       | none =>
        simp only
        have hnj : k ∉ ej.ks := fun hm => (hjne k (kj2 k hm)).2 rfl
        have hnk'' : ej.k ≠ some k := fun e => (hjne k (kj1 k e).1).2 rfl
        unfold shut
        rw [if_neg hnj, killT_ne hnk'', if_neg hnj, killT_ne hnk'']
        have : ei.grs i st.gr k = st.gr k := by rw [Eff.grs_ne hki', if_neg hni, killT_ne hnk']
        unfold Eff.grs shut at this
        exact this.symm
      ·rw [Eff.grs_ne hki', Eff.grs_ne hkj']
       have hk2 : ∀ (e : Eff) (g : Gr), killT g e.k k = if e.k = some k then none else g k := fun e g => by
        split
        ·rename_i h; rw [h, killT_hit]
        ·rename_i h; exact killT_ne h
       rw [hk2 ei, hk2 ej, Eff.grs_ne hkj', Eff.grs_ne hki', hk2 ej, hk2 ei]
       by_cases p1 : ei.k = some k <;> by_cases p2 : ej.k = some k <;> by_cases p3 : k ∈ ei.ks <;> by_cases p4 : k ∈ ej.ks <;> simp [p1, p2, p3, p4] <;> cases st.gr k <;> rfl
    show (st.aft oj.d ⟨ej.v, ej.bxs j st.bx, ej.grs j st.gr⟩).aft oi.d ⟨ei.v, ei.bxs i (ej.bxs j st.bx), ei.grs i (ej.grs j st.gr)⟩ = _
    rw [e1, e2]
    exact aft_comm a2
  | D hc mi =>
   have hj0 : oj.op.cls = 0 := by
    cases h0 : oj.op.cls with
    | zero => rfl
    | succ n => simp [clsOk, hc, h0] at a4
   obtain ⟨e0, rfl, rfl⟩ := sj3 hj0
   have er : ej.res j st.bx st.gr = ⟨ej.v, st.bx, st.gr⟩ := by rw [e0]; exact pure_res
   have mi' := mi st.ev evi
   rw [er] at mi' ⊢
   refine goj' ri ⟨ej.v, ri.bx, ri.gr⟩ mi' ?_ (by cases ri; exact aft_comm a2)
   have := mj (st.aft oi.d ri).ev ri.bx ri.gr (evj _) (by simp) (by simp) (by rw [e0]; simp [Eff.pure])
   rwa [show ej.res j ri.bx ri.gr = ⟨ej.v, ri.bx, ri.gr⟩ by rw [e0]; exact pure_res] at this
 | D hc mj =>
  have hi0 : oi.op.cls = 0 := by
   cases h0 : oi.op.cls with
   | zero => rfl
   | succ n => simp [clsOk, hc, h0] at a4
  cases kind ci with
  | A ei Ni Bi ei' ni1 bi1 ki1 ki2 mi si1 si2 si3 si4 =>
   obtain ⟨e0, rfl, rfl⟩ := si3 hi0
   have e' : ri = ⟨ei.v, rj.bx, rj.gr⟩ := by rw [ei', e0]; exact pure_res
   subst e'
   refine goj ⟨ei.v, st.bx, st.gr⟩ rj ?_ (mj _ (evj _)) (by cases rj; exact aft_comm a2)
   have := mi st.ev st.bx st.gr evi (by simp) (by simp) (by rw [e0]; simp [Eff.pure])
   rwa [show ei.res i st.bx st.gr = ⟨ei.v, st.bx, st.gr⟩ by rw [e0]; exact pure_res] at this
  | D hc' mi => rw [hi0] at hc'; cases hc'
end
end Go.Proofs.YthdkjfhpbigdpaaDoor.Ev

namespace Go.Proofs.YthdkjfhpbigdpaaDoor.Ev
open Go Go.RowKit
set_option linter.unusedSimpArgs false
set_option linter.unusedVariables false

inductive Dep (ops : Array Oper) : Nat → Nat → Prop
 | one {i : Nat} {o : Oper} {e : Edge} : ops[i]? = some o → e ∈ o.after → Region.binds .any e = true → Dep ops i e.on
 | more {i j : Nat} {o : Oper} {e : Edge} : ops[i]? = some o → e ∈ o.after → Region.binds .any e = true → Dep ops e.on j → Dep ops i j
def bef1 (acc : Array Nat) (l : List Edge) (s : Nat) : Nat := l.foldl (fun s e => if Region.binds .any e then s ||| 2 ^ e.on ||| acc.getD e.on 0 else s) s
def befs : List Oper → Array Nat → Array Nat
 | [], acc => acc
 | o :: l, acc => befs l (acc.push (bef1 acc o.after.toList 0))
theorem bef1_spec {acc : Array Nat} {j : Nat} : ∀ (l : List Edge) (s : Nat), (bef1 acc l s).testBit j = true → s.testBit j = true ∨ ∃ e ∈ l, Region.binds .any e = true ∧ (e.on = j ∨ (acc.getD e.on 0).testBit j = true)
 | [], s, h => .inl h
 | e :: l, s, h => by
  rcases bef1_spec l _ h with h | ⟨e', he', h⟩
  ·dsimp only at h
   split at h
   ·rename_i hb
    rw [Nat.testBit_or, Nat.testBit_or] at h
    simp only [Bool.or_eq_true] at h
    rcases h with (h | h) | h
    ·exact .inl h
    ·exact .inr ⟨e, List.mem_cons_self .., hb, .inl (by rw [Nat.testBit_two_pow] at h; simpa using h)⟩
    ·exact .inr ⟨e, List.mem_cons_self .., hb, .inr h⟩
   ·exact .inl h
  ·exact .inr ⟨e', List.mem_cons_of_mem _ he', h⟩
theorem befs_spec {ops : Array Oper} : ∀ (l : List Oper) (acc : Array Nat), (∀ i, acc.size ≤ i → ops[i]? = l[i - acc.size]?) → (∀ i j, (acc.getD i 0).testBit j = true → Dep ops i j) → ∀ i j, ((befs l acc).getD i 0).testBit j = true → Dep ops i j
 | [], acc, _, h => h
 | o :: l, acc, hl, h => by
  refine befs_spec l _ (fun i hi => ?_) fun i j hb => ?_
  ·simp only [Array.size_push] at hi ⊢
   rw [hl i (by omega), show i - acc.size = (i - (acc.size + 1)) + 1 by omega]
   rfl
  ·by_cases hi : i < acc.size
   ·refine h i j ?_
    have : (acc.push (bef1 acc o.after.toList 0)).getD i 0 = acc.getD i 0 := by simp [Array.getElem?_push, Nat.ne_of_lt hi]
    rw [this] at hb; exact hb
   ·by_cases hi' : i = acc.size
    ·subst hi'
     have : (acc.push (bef1 acc o.after.toList 0)).getD acc.size 0 = bef1 acc o.after.toList 0 := by simp
     rw [this] at hb
     have ho : ops[acc.size]? = some o := by rw [hl _ (Nat.le_refl _)]; simp
     rcases bef1_spec _ _ hb with h0 | ⟨e, he, hbd, hj | hj⟩
     ·simp at h0
     ·subst hj; exact .one ho (by simpa using he) hbd
     ·exact .more ho (by simpa using he) hbd (h _ _ hj)
    ·have : (acc.push (bef1 acc o.after.toList 0)).getD i 0 = 0 := by simp [Array.getElem?_push, hi', Array.getElem?_eq_none (Nat.le_of_not_lt hi)]
     rw [this] at hb; simp at hb
theorem dep_out {ops : Array Oper} {rem : List Nat} (hc : ∀ k, k ∉ rem → ∀ o, ops[k]? = some o → ∀ e ∈ o.after, Region.binds .any e = true → e.on ∉ rem) {i j : Nat} (d : Dep ops i j) :
  (∀ o, ops[i]? = some o → ∀ e ∈ o.after, Region.binds .any e = true → e.on ∉ rem) → j ∉ rem := by
 induction d with
 | one ho he hb => exact fun h => h _ ho _ he hb
 | more ho he hb _ ih => exact fun h => ih fun o' ho' => hc _ (h _ ho _ he hb) o' ho'

def dstOk (n : Nat) : Option Nat → Bool
 | some d => decide (d < n)
 | none => true
def copG (P : Program) (ops : Array Oper) (n : Nat) (o : Oper) : Option AOper :=
 if dstOk n o.dst then
  match cop P o with
  | some ao => match o.guard with
   | none => some ⟨o.dst, none, ao⟩
   | some (j, b) => match (ops[j]?).bind (·.dst) with
    | some t => some ⟨o.dst, some (t, b), ao⟩
    | none => none
  | none => none
 else none
def cops (P : Program) (ops : Array Oper) (n : Nat) : List Oper → Option (List AOper)
 | [] => some []
 | o :: l => match copG P ops n o, cops P ops n l with | some a, some r => some (a :: r) | _, _ => none
theorem cops_get {P : Program} {ops : Array Oper} {n : Nat} : ∀ {l : List Oper} {r : List AOper}, cops P ops n l = some r → r.length = l.length ∧ ∀ (i : Nat) (a : AOper), r[i]? = some a → ∃ o, l[i]? = some o ∧ copG P ops n o = some a
 | [], r, h => by simp only [cops, Option.some.injEq] at h; subst h; simp
 | o :: l, r, h => by
  simp only [cops] at h
  split at h
  ·rename_i a r' h1 h2
   cases h
   obtain ⟨e, f⟩ := cops_get h2
   refine ⟨by simp [e], fun i a' hi => ?_⟩
   cases i with
   | zero => simp at hi; subst hi; exact ⟨o, rfl, h1⟩
   | succ i => simpa using f i a' (by simpa using hi)
  ·cases h
section
variable {P : Program} {c : Cx} {fr : Nat → Prop} {g : Gh} {st : AS} {a : Act} {w : World} {id : Nat} {K : AS → Prop} {Q : Exit → Act → World → Prop} {X : AV → Prop} {J : World → Prop} {E : Env} {ops : Array Oper}
theorem want_sound (R : Rel c fr g st a w) {j : Nat} {b : Bool} {t : Nat} {r : Bool} (ht : (ops[j]?).bind (·.dst) = some t) (h : want st (some (t, b)) = some r) :
  (yielded ops a.tmps j == some b) = r := by
 have rt := R.tmp t
 unfold want at h
 simp only at h
 have hy : ∀ v, a.tmps.getD t undef = v → v ≠ undef → a.tmps[t]? = some v := fun v hv hne => by
  cases hq : a.tmps[t]? with
  | none => simp [hq] at hv; exact absurd hv.symm hne
  | some u => simp [hq] at hv; rw [hv]
 generalize hv : a.tmps.getD t undef = v at rt
 unfold yielded
 rw [ht]
 simp only [Option.bind_some]
 split at h
 ·rename_i q he
  rw [he] at rt
  have e : v = .bool q := sc_rep rt rfl
  subst e
  cases h
  rw [hy _ hv (by simp [undef])]
  simp
 ·rename_i x hx he
  rw [he] at rt
  have e : v = x := sc_rep rt rfl
  subst e
  cases h
  have hone : v.oneCell' = true := (Cel.conv rt (by simp) (by simp) (by simp)).one
  rw [hy _ hv (by rintro rfl; cases hone)]
  cases v <;> first|rfl|exact absurd rfl (hx _)
 ·rename_i vs he
  rw [he] at rt
  cases h
  cases hq : a.tmps[t]? with
  | none => rfl
  | some u =>
   have : v = u := by rw [← hv]; simp [hq]
   subst this
   cases rt with
   | com cm => cases cm with | cel cl => cases cl with | pur p => cases p
   | tup _ => rfl
 ·cases h
theorem op_one (hE : Ok P J E) (hJ : ∀ w, Keep c.w0.heap.size c.gs c.w0 w → J w) (R : Rel c fr g st a w) (hf : fr id) {o : Oper} {i : Nat} {ao : AOper} (ho : ops[i]? = some o) (hc : copG P ops c.n o = some ao)
  (h : stpG P E id st K X ao) (hX : ∀ x a w, X (.s x) → a.defers = [] → Keep c.w0.heap.size c.gs c.w0 w → Q (.panic [{ v := x, recovered := false }]) a w) : wpOp P ops Q i (Goes c fr id K) a w := by
 unfold copG at hc
 split at hc
 ·rename_i hd
  have hd' : ∀ i, o.dst = some i → i < c.n := fun i hi => by rw [hi] at hd; simpa [dstOk] using hd
  obtain ⟨b, hb, h⟩ := h
  split at hc
  ·rename_i op hop
   have fin : ∀ gd, ao = ⟨o.dst, gd, op⟩ → Region.wanted o (yielded ops a.tmps) = b → wpOp P ops Q i (Goes c fr id K) a w := fun gd he hw => by
    subst he
    unfold wpOp
    rw [ho]
    simp only [hw]
    cases b with
    | false => exact ⟨_, h, after_pure R hd' undef_rep⟩
    | true => exact .inl (op_sound hE R (hJ w R.keep) hf hd' hop h hX)
   split at hc
   ·rename_i hg
    cases hc
    cases hb
    exact fin _ rfl (by simp [Region.wanted, hg])
   ·rename_i j wb hg
    split at hc
    ·rename_i t ht
     cases hc
     refine fin _ rfl ?_
     simp only [Region.wanted, hg]
     exact want_sound R ht hb
    ·cases hc
  ·cases hc
 ·cases hc
end
end Go.Proofs.YthdkjfhpbigdpaaDoor.Ev

namespace Go.Proofs.YthdkjfhpbigdpaaDoor.Ev
open Go Go.RowKit
set_option linter.unusedSimpArgs false
set_option linter.unusedVariables false

def runR (P : Program) (E : Env) (al : List (AOper × Bool)) (nx : Nat) (K : AS → Prop) (X : AV → Prop) : List Nat → AS → Prop
  | [], st => K st
  | i :: l, st => ∃ o z, al[i]? = some (o, z) ∧ stpG P E (nx + i) st (runR P E al nx K X l) (fun v => z = true ∧ X v) o
theorem runR_of {P : Program} {E : Env} {al : List (AOper × Bool)} {nx : Nat} {K : AS → Prop} {X : AV → Prop} : ∀ (l : List (AOper × Bool)) (k : Nat) (st : AS), (∀ i, al[k + i]? = l[i]?) → runOps P E K X (nx + k) l st → runR P E al nx K X (List.range' k l.length) st
  | [], _, _, _, h => h
  | (o, z) :: l, k, st, hl, h => by
    rw [List.length_cons, List.range'_succ]
    refine ⟨o, z, by rw [← Nat.add_zero k, hl 0]; rfl, ?_⟩
    rcases stpG_iff.1 h with ⟨s1, h1, h2⟩ | ⟨v, h1, h2⟩
    · exact stpG_iff.2 (.inl ⟨s1, h1, runR_of l (k + 1) s1 (fun i => by rw [show k + 1 + i = k + (i + 1) by omega, hl]; rfl) h2⟩)
    · exact stpG_iff.2 (.inr ⟨v, h1, h2⟩)
def ordOk (ops : Array Oper) (al : List (AOper × Bool)) : Bool :=
  let b := befs ops.toList #[]
  (List.range al.length).all fun i => (match ops[i]? with | some o => o.after.all fun e => !Region.binds .any e || decide (e.on < i) | none => true) &&
    (List.range i).all fun j => (b.getD i 0).testBit j || (match al[j]?, al[i]? with | some (oj, z), some (oi, _) => !z && apart oi oj | _, _ => false)
section
variable {P : Program} {c : Cx} {nx : Nat} {K : AS → Prop} {Q : Exit → Act → World → Prop} {X : AV → Prop} {J : World → Prop} {E : Env} {ops : Array Oper} {al : List (AOper × Bool)}
def frR (nx n : Nat) (rem : List Nat) (id : Nat) : Prop := nx + n ≤ id ∨ ∃ i ∈ rem, id = nx + i
theorem Rel.fresh {fr : Nat → Prop} {g : Gh} {st : AS} {a : Act} {w : World} (R : Rel c fr g st a w) : Fresh fr st := by
  have noref : ∀ l : List Value, (l.map AV.s).flatMap refC = [] := fun l => by induction l <;> simp_all [refC]
  have ev : ∀ x, (∃ b o, st.ev x = .ptr b o) ∨ (∃ k, k ∈ refA (st.ev x)) → ∃ v, Rep g (st.ev x) v := fun x h => by
    cases x with
    | tmp t => exact ⟨_, R.tmp t⟩
    | const v =>
      have hn : refA (ofV v) = [] := by cases v <;> first|rfl|exact noref _
      rcases h with ⟨b, o, h⟩ | ⟨k, h⟩
      · cases v <;> cases h
      · rw [show st.ev (.const v) = ofV v from rfl, hn] at h; cases h
    | global b => simp [AS.ev, refA, refs, refC] at h
    | func f => simp [AS.ev, refA, refs, refC] at h
  have cel : ∀ {x : AV} {v : Value} {k : Nat}, Cel g x v → k ∈ refA x → ¬ fr k := fun {x v k} h hk hf => by
    cases h with
    | pur p => cases p <;> simp [refA, refs, refC] at hk
    | ref e _ => simp [refA, refs, refC] at hk; subst hk; rw [(R.free _ hf).2] at e; cases e
    | ptr e => simp [refA, refs, refC] at hk
    | elt e => simp [refA, refs, refC] at hk
    | rptr e => simp [refA] at hk; subst hk; rw [(R.free _ hf).2] at e; cases e
  refine ⟨fun x b o he hf => ?_, fun x k hk => ?_⟩
  · obtain ⟨v, r⟩ := ev x (.inl ⟨b, o, he⟩)
    rw [he] at r
    cases Cel.conv r (by simp) (by simp) (by simp) with
    | pur p => cases p
    | ptr h => rw [(R.free b hf).1] at h; cases h
  · obtain ⟨v, r⟩ := ev x (.inr ⟨k, hk⟩)
    generalize st.ev x = y at r hk
    cases r with
    | com cm => cases cm with
      | cel cl => exact cel cl hk
      | agg cs =>
        simp only [refA, refs] at hk
        obtain ⟨z, hz, hk⟩ := List.mem_flatMap.1 hk
        have : ∀ {l : List AV} {vs : List Value}, All2 (Cel g) l vs → ∀ z ∈ l, ∃ v, Cel g z v := fun h => by
          induction h with
          | nil => simp
          | cons h _ ih => exact fun z hz => (List.mem_cons.1 hz).elim (fun e => ⟨_, e ▸ h⟩) (ih z)
        obtain ⟨u, cl⟩ := this cs z hz
        exact cel cl (refA_of hk)
    | tup cs => simp [refA, refs, refC] at hk
    | any => simp [refA, refs, refC] at hk
theorem wp_ex {o : Oper} {a : Act} {w : World} {K : Act → World → Prop} (h : o.wp P a w K (fun _ _ _ => False)) : ∃ a' w', K a' w' := by
  unfold Oper.wp at h
  generalize (execOp a.eval o).run P w = r at h
  cases r with
  | ok n w' =>
    cases n <;> simp only [Oper.upon] at h <;> first
     |exact ⟨_, _, h⟩
     |exact h.elim
      | (obtain ⟨e, w', fr, hr, _⟩ := h []
         cases e with
         | returned v => exact ⟨_, _, hr⟩
         | panicked ch => exact hr.elim
         | outgrown => obtain ⟨_, _, hr⟩ := hr; exact hr.elim)
      | (obtain ⟨v, w', hr, _⟩ := h default []; exact ⟨_, _, hr⟩)
  | halt x w' => cases x <;> simp only [Oper.upon] at h
theorem wpOp_ex {i : Nat} {a : Act} {w : World} {K : Act → World → Prop} (h : wpOp P ops (fun _ _ _ => False) i K a w) : ∃ a' w', K a' w' := by
  unfold wpOp at h
  split at h
  · exact ⟨_, _, h⟩
  · split at h
    · rcases h with h | ⟨_, _, _, h⟩
      · exact wp_ex h
      · exact h.elim
    · exact ⟨_, _, h⟩
theorem front (hE : Ok P J E) (hJ : ∀ w, Keep c.w0.heap.size c.gs c.w0 w → J w) (hops : ∀ (i : Nat) (x : AOper × Bool), al[i]? = some x → ∃ o, ops[i]? = some o ∧ copG P ops c.n o = some x.1) {i : Nat} {oi : AOper} {zi : Bool} (hi : al[i]? = some (oi, zi)) {l2 : List Nat} {n : Nat} (hn : al.length ≤ n) :
    ∀ (l1 : List Nat) {st : AS} {g : Gh} {a : Act} {w : World}, (l1 ++ i :: l2).Nodup → (∀ j ∈ l1, ∃ oj, al[j]? = some (oj, false) ∧ apart oi oj = true) → Rel c (frR nx n (l1 ++ i :: l2)) g st a w →
      runR P E al nx K X (l1 ++ i :: l2) st → stpG P E (nx + i) st (runR P E al nx K X (l1 ++ l2)) X oi
  | [], st, g, a, w, _, _, R, h => by
    obtain ⟨o, z, ho, h⟩ := h
    rw [hi] at ho; cases ho
    rcases stpG_iff.1 h with ⟨s1, h1, h2⟩ | ⟨v, h1, h2⟩
    · exact stpG_iff.2 (.inl ⟨s1, h1, h2⟩)
    · exact stpG_iff.2 (.inr ⟨v, h1, h2.2⟩)
  | j :: l1, st, g, a, w, hnd, hj, R, h => by
    obtain ⟨oj, hoj, hap⟩ := hj j (List.mem_cons_self ..)
    obtain ⟨o, z, ho, h⟩ := h
    rw [hoj] at ho; cases ho
    have hnd' := List.nodup_cons.1 hnd
    have fj : frR nx n (j :: l1 ++ i :: l2) (nx + j) := .inr ⟨j, by simp, rfl⟩
    have fi : frR nx n (j :: l1 ++ i :: l2) (nx + i) := .inr ⟨i, by simp, rfl⟩
    have hne : i ≠ j := fun e => hnd'.1 (by rw [e]; simp)
    rcases stpG_iff.1 h with ⟨s1, h1, h2⟩ | ⟨v, h1, h2⟩
    · obtain ⟨oc, hoc, hcc⟩ := hops j _ hoj
      have hone : wpOp P ops (fun _ _ _ => False) j (Goes c (frR nx n (j :: l1 ++ i :: l2)) (nx + j) (fun s => s = s1)) a w :=
        op_one (X := fun _ => False) hE hJ R fj hoc hcc (stpG_iff.2 (.inl ⟨s1, h1, rfl⟩)) (fun _ _ _ h => h.elim)
      obtain ⟨a', w', _, rfl, g', R'⟩ := wpOp_ex hone
      have R1 := R'.weak (fr' := frR nx n (l1 ++ i :: l2)) fun id hid => by
        rcases hid with hid | ⟨k, hk, rfl⟩
        · refine ⟨.inl hid, ?_⟩
          have : j < al.length := (List.getElem?_eq_some_iff.1 hoj).1
          omega
        · exact ⟨.inr ⟨k, List.mem_cons_of_mem _ hk, rfl⟩, fun e => hnd'.1 (by rw [show j = k by omega]; exact hk)⟩
      have := front hE hJ hops hi hn l1 hnd'.2 (fun k hk => hj k (List.mem_cons_of_mem _ hk)) R1 h2
      rcases stpG_iff.1 this with ⟨s2, k1, k2⟩ | ⟨v, k1, k2⟩
      · obtain ⟨s1', c1, c2⟩ := comm hap R.fresh fi fj (by omega) h1 k1
        exact stpG_iff.2 (.inl ⟨s1', c1, oj, false, hoj, stpG_iff.2 (.inl ⟨s2, c2, k2⟩)⟩)
      · refine stpG_iff.2 (.inr ⟨v, ?_, k2⟩)
        obtain ⟨a1, a2, a3, a4⟩ := apart_spec hap
        obtain ⟨ri1, ri2⟩ := reads_op a3
        obtain ⟨bj, rj, wj, cj, rfl⟩ := h1
        obtain ⟨p1, p2⟩ := k1
        rw [aft_want ri2] at p1
        refine ⟨p1, ?_⟩
        have evi : ∀ x ∈ oi.op.opds, (st.aft oj.d rj).ev x = st.ev x := aft_ev ri1
        have key : ∀ (N : List Nat), (∀ k ∈ N, (st.aft oj.d rj).gr k ≠ none ∧ ∃ x ∈ oi.op.opds, k ∈ refA ((st.aft oj.d rj).ev x)) → (N ≠ [] → oi.op.cls = 5) → ∀ k ∈ N, SameX (st.gr k) ((st.aft oj.d rj).gr k) := fun N hN h5 k hk => by
          obtain ⟨h0, x, hx, hm⟩ := hN k hk
          rw [evi x hx] at hm
          have nf := R.fresh.2 x k hm
          have hkj : k ≠ nx + j := fun e => nf (by rw [e]; exact fj)
          rw [aft_gr] at h0 ⊢
          cases kind cj with
          | D hc _ => rw [h5 (fun e => by rw [e] at hk; cases hk), hc] at a4; cases a4
          | A ej Nj Bj ej' nj1 bj1 kj1 kj2 mj sj1 sj2 sj3 sj4 =>
            subst ej'
            have h0' : ej.grs (nx + j) st.gr k ≠ none := h0
            show SameX _ (ej.grs (nx + j) st.gr k)
            rw [Eff.grs_ne hkj] at h0' ⊢
            have hnk : ej.k ≠ some k := fun e => by
              rw [e, killT_hit] at h0'
              split at h0' <;> exact h0' rfl
            rw [killT_ne hnk]
            split
            · exact (same_shut _).symm
            · exact same_refl _
        revert p2 evi key
        cases oi.op <;> intro p2 evi key <;> first|exact p2.elim | skip
        · rename_i f xs
          obtain ⟨p2, h0⟩ : E f (xs.map fun x => strip (st.aft oj.d rj).gr ((st.aft oj.d rj).ev x)) (.pan v) ∧ here (st.aft oj.d rj).gr ((xs.map (st.aft oj.d rj).ev).flatMap refs) = true := p2
          have hN := key ((xs.map (st.aft oj.d rj).ev).flatMap refs) (fun k hk => ⟨here_mem h0 k hk, by
            obtain ⟨y, hy, hk⟩ := List.mem_flatMap.1 hk
            obtain ⟨x, hx, rfl⟩ := List.mem_map.1 hy
            exact ⟨x, hx, refA_refs hk⟩⟩) (fun _ => rfl)
          have hm : xs.map (st.aft oj.d rj).ev = xs.map st.ev := List.map_congr_left fun x hx => evi x hx
          refine ⟨?_, by rw [← hm, here_same hN]; exact h0⟩
          rw [List.map_congr_left (g := fun x => strip (st.aft oj.d rj).gr ((st.aft oj.d rj).ev x)) fun x hx => ?_]
          · exact p2
          · rw [← evi x hx]
            exact strip_same fun k hk => hN k (List.mem_flatMap.2 ⟨_, List.mem_map_of_mem hx, hk⟩)
        · obtain ⟨t, u, q1, q2⟩ := p2
          exact ⟨t, u, by rw [← evi _ (by simp [AOp.opds])]; exact q1, q2⟩
    · exact absurd h2.1 (by simp)
theorem any_sound (hE : Ok P J E) (hJ : ∀ w, Keep c.w0.heap.size c.gs c.w0 w → J w) (hal : al.length = ops.size) (hops : ∀ (i : Nat) (x : AOper × Bool), al[i]? = some x → ∃ o, ops[i]? = some o ∧ copG P ops c.n o = some x.1)
    (hord : ordOk ops al = true) (hQ : ∀ a w st' g', K st' → Rel c (fun i => nx + ops.size ≤ i) g' st' a w → Q .normal a w)
    (hX : ∀ x a w, X (.s x) → a.defers = [] → Keep c.w0.heap.size c.gs c.w0 w → Q (.panic [{ v := x, recovered := false }]) a w) :
    ∀ (n : Nat) (rem : List Nat) (listed : Array Bool) {st : AS} {g : Gh} {a : Act} {w : World}, rem.length = n → rem.Pairwise (· < ·) → listed.size = ops.size → (∀ i, i ∈ rem ↔ i < ops.size ∧ listed.getD i true = false) →
      (∀ k, k ∉ rem → ∀ o, ops[k]? = some o → ∀ e ∈ o.after, Region.binds .any e = true → e.on ∉ rem) → Rel c (frR nx ops.size rem) g st a w → runR P E al nx K X rem st → ∀ fuel, n ≤ fuel → wpAny P .any ops Q fuel listed a w := by
  have ho := List.all_eq_true.1 hord
  intro n
  induction n with
  | zero =>
    intro rem listed st g a w hlen _ hsz hmem hcl R h fuel _
    have : rem = [] := List.eq_nil_of_length_eq_zero hlen
    subst this
    have hr : Region.ready .any ops listed = [] := by
      cases e : Region.ready .any ops listed with
      | nil => rfl
      | cons j l =>
        have hj : j ∈ Region.ready .any ops listed := by rw [e]; exact List.mem_cons_self ..
        obtain ⟨h0, o, hoj, _⟩ := mem_ready.1 hj
        have := (hmem j).2 ⟨(Array.getElem?_eq_some_iff.1 hoj).1, h0⟩
        cases this
    exact wpAny_done hr (hQ a w st g h (R.weak fun i hi => .inl hi)) fuel
  | succ n ih =>
    intro rem listed st g a w hlen hpw hsz hmem hcl R h fuel hfuel
    obtain ⟨fuel, rfl⟩ : ∃ f, fuel = f + 1 := ⟨fuel - 1, by omega⟩
    have hlisted : ∀ k, listed.getD k false = true → k ∉ rem := fun k hk hm => by
      have h1 := ((hmem k).1 hm).2
      have h2 := ((hmem k).1 hm).1
      have hlt : k < listed.size := by omega
      simp [hlt] at hk h1
      rw [hk] at h1; cases h1
    have hout : ∀ k, k ∉ rem → k < ops.size → listed.getD k false = true := fun k hk hlt => by
      cases e : listed.getD k true with
      | false => exact absurd ((hmem k).2 ⟨hlt, e⟩) hk
      | true =>
        have hlt' : k < listed.size := by omega
        simp [hlt'] at e ⊢; exact e
    refine ⟨fun hr => ?_, fun i hi => ?_⟩
    · exfalso
      cases rem with
      | nil => simp at hlen
      | cons m l =>
        have hm := (hmem m).1 (List.mem_cons_self ..)
        obtain ⟨o, hom⟩ : ∃ o, ops[m]? = some o := ⟨ops[m]'hm.1, by simp [hm.1]⟩
        have hmr : m ∈ Region.ready .any ops listed := by
          refine mem_ready.2 ⟨hm.2, o, hom, fun e he hb => ?_⟩
          have h1 := ho m (by rw [List.mem_range, hal]; exact hm.1)
          simp only [Bool.and_eq_true, hom] at h1
          have h2 := Array.all_eq_true_iff_forall_mem.1 h1.1 e he
          simp only [hb, Bool.not_true, Bool.false_or, decide_eq_true_eq] at h2
          refine hout _ (fun hin => ?_) (by omega)
          rcases List.mem_cons.1 hin with h | h
          · omega
          · have := List.rel_of_pairwise_cons hpw h; omega
        rw [hr] at hmr; cases hmr
    · obtain ⟨h0, o, hoi, hall⟩ := mem_ready.1 hi
      have hlt : i < ops.size := (Array.getElem?_eq_some_iff.1 hoi).1
      have him : i ∈ rem := (hmem i).2 ⟨hlt, h0⟩
      obtain ⟨l1, l2, rfl⟩ := List.append_of_mem him
      obtain ⟨⟨ai, zi⟩, hai⟩ : ∃ x, al[i]? = some x := ⟨al[i]'(by omega), by simp⟩
      obtain ⟨o', ho', hcp⟩ := hops i _ hai
      rw [hoi] at ho'; cases ho'
      have hready : ∀ o', ops[i]? = some o' → ∀ e ∈ o'.after, Region.binds .any e = true → e.on ∉ l1 ++ i :: l2 := fun o' ho' e he hb => by
        rw [hoi] at ho'; cases ho'
        exact hlisted _ (hall e he hb)
      have hnd : (l1 ++ i :: l2).Nodup := hpw.imp Nat.ne_of_lt
      have hfr := front hE hJ hops hai (Nat.le_of_eq hal) (n := ops.size) l1 hnd (fun j hj => by
        have hji : j < i := (List.pairwise_append.1 hpw).2.2 j hj i (List.mem_cons_self ..)
        have h1 := ho i (by rw [List.mem_range, hal]; exact hlt)
        simp only [Bool.and_eq_true] at h1
        have h2 := List.all_eq_true.1 h1.2 j (List.mem_range.2 hji)
        simp only [Bool.or_eq_true] at h2
        rcases h2 with h2 | h2
        · have hd := befs_spec (ops := ops) ops.toList #[] (fun i _ => by simp) (fun i j h => by simp at h) i j h2
          exact absurd (List.mem_append_left _ hj) (dep_out hcl hd hready)
        · rw [hai] at h2
          split at h2
          · rename_i oj z oi' z' e1 e2
            cases e2
            simp only [Bool.and_eq_true, Bool.not_eq_true'] at h2
            obtain ⟨hz, hap⟩ := h2
            subst hz
            exact ⟨oj, e1, hap⟩
          · cases h2) R h
      refine wpOp_mono (fun a' w' hg => ?_) (op_one (Q := Q) hE hJ R (.inr ⟨i, him, rfl⟩) hoi hcp hfr hX)
      obtain ⟨s', hk, g', R'⟩ := hg
      have hni : i ∉ l1 ++ l2 := fun hm => by
        have := List.nodup_append.1 hnd
        rcases List.mem_append.1 hm with hm | hm
        · exact (this.2.2 i hm i (List.mem_cons_self ..)) rfl
        · exact (List.nodup_cons.1 this.2.1).1 hm
      refine ih (l1 ++ l2) (listed.setIfInBounds i true) (by simp at hlen ⊢; omega) (hpw.sublist (List.Sublist.append (List.Sublist.refl _) (List.sublist_cons_self ..))) (by simpa using hsz) (fun k => ?_) (fun k hk o' ho' e he hb hin => ?_)
        (R'.weak fun id hid => ?_) hk fuel (by omega)
      · by_cases hki : k = i
        · subst hki
          constructor
          · exact fun h => absurd h hni
          · rintro ⟨_, h⟩
            have : k < listed.size := by omega
            simp [this] at h
        · rw [getD_set_ne true (Ne.symm hki), ← hmem k]
          simp [hki]
      · have hin' : e.on ∈ l1 ++ i :: l2 := by
          rcases List.mem_append.1 hin with h | h
          · exact List.mem_append_left _ h
          · exact List.mem_append_right _ (List.mem_cons_of_mem _ h)
        by_cases hki : k = i
        · subst hki; exact hready o' ho' e he hb hin'
        · exact hcl k (fun hm => hk (by
            rcases List.mem_append.1 hm with h | h
            · exact List.mem_append_left _ h
            · rcases List.mem_cons.1 h with h | h
              · exact absurd h hki
              · exact List.mem_append_right _ h)) o' ho' e he hb hin'
      · rcases hid with hid | ⟨k, hk', rfl⟩
        · exact ⟨.inl hid, by omega⟩
        · refine ⟨.inr ⟨k, ?_, rfl⟩, fun e => hni (by rw [show i = k by omega]; exact hk')⟩
          rcases List.mem_append.1 hk' with h | h
          · exact List.mem_append_left _ h
          · exact List.mem_append_right _ (List.mem_cons_of_mem _ h)
end
end Go.Proofs.YthdkjfhpbigdpaaDoor.Ev

namespace Go.Proofs.YthdkjfhpbigdpaaDoor.Ev
open Go Go.RowKit
set_option linter.unusedSimpArgs false
set_option linter.unusedVariables false

def regAl (ops : Array Oper) (draw : Bool) (l : List AOper) : List (AOper × Bool) :=
 let b := befs ops.toList #[]
 l.zipIdx.map fun x => (x.1, if draw then (List.range ops.size).all fun k => decide (k ≤ x.2) || (b.getD k 0).testBit x.2 else true)
def comp (P : Program) (n : Nat) : Code → Option ACode
 | .skip | .label _ => some .skip
 | .region _ ops draw => match cops P ops n ops.toList with
  | some l => let al := regAl ops draw l; if !draw || (ordOk ops al && P.follows .mixedOrders) then some (.reg al) else none
  | none => none
 | .seq a b => match comp P n a, comp P n b with | some x, some y => some (.seq x y) | _, _ => none
 | .cond c a b => match comp P n a, comp P n b with | some x, some y => if oOk c then some (.cond c x y) else none | _, _ => none
 | .block id a => (comp P n a).map (.block id)
 | .loop a => (comp P n a).map .loop
 | .exit id => some (.exit id)
 | .ret => some .ret
 | _ => none
def Le (s' s : AS) : Prop := ∀ c g a w, Rel c (fun i => s.nx ≤ i) g s a w → ∃ g', Rel c (fun i => s'.nx ≤ i) g' s' a w
def AEx.seq (K : AEx → AS → Prop) (N : AS → Prop) : AEx → AS → Prop
 | .normal, s => N s
 | e, s => K e s
def AEx.blk (id : Nat) (K : AEx → AS → Prop) : AEx → AS → Prop
 | .exit i, s => if i = id then K .normal s else K (.exit i) s
 | e, s => K e s
def awp (P : Program) (E : Env) : ACode → (AEx → AS → Prop) → AS → Prop
 | .skip, K, st => K .normal st
 | .reg al, K, st => runOps P E (fun s => K .normal { s with nx := st.nx + al.length }) (fun v => K (.pan v) st) st.nx al st
 | .seq a b, K, st => awp P E a (AEx.seq K (awp P E b K)) st
 | .cond c x y, K, st => ∃ t, st.ev c = .s (.bool t) ∧ (t = true → awp P E x K st) ∧ (t = false → awp P E y K st)
 | .block id c, K, st => awp P E c (AEx.blk id K) st
 | .loop c, K, st => ∃ (ι : Type) (S : ι → AS) (μ : ι → Nat) (i0 : ι), Le (S i0) st ∧ ∀ i, awp P E c (AEx.seq K fun s' => ∃ j, Le (S j) s' ∧ μ j < μ i) (S i)
 | .exit id, K, st => K (.exit id) st
 | .ret, K, st => K .ret st

def Lift (c : Cx) (K : AEx → AS → Prop) : Exit → Act → World → Prop
 | .normal, a, w => ∃ g st, K .normal st ∧ Rel c (fun i => st.nx ≤ i) g st a w
 | .exit id, a, w => ∃ g st, K (.exit id) st ∧ Rel c (fun i => st.nx ≤ i) g st a w
 | .ret, a, w => ∃ g st, K .ret st ∧ Rel c (fun i => st.nx ≤ i) g st a w
 | .panic ch, a, w => ∃ x st, ch = [{ v := x, recovered := false }] ∧ K (.pan (.s x)) st ∧ a.defers = [] ∧ Keep c.w0.heap.size c.gs c.w0 w
 | _, _, _ => False
theorem wp_loop' {P : Program} {c : Code} {Q : Exit → Act → World → Prop} {a : Act} {w : World} {α : Type} (I : α → Act → World → Prop) (μ : α → Nat) (x0 : α) (h₀ : I x0 a w)
  (round : ∀ x a w, I x a w → c.wp P (Exit.then (fun a' w' => ∃ y, I y a' w' ∧ μ y < μ x) Q) a w) : (Code.loop c).wp P Q a w := by
 intro b k cs
 have key : ∀ n x a w, μ x = n → I x a w → ∃ e a' w', Q e a' w' ∧ Arrives P (lone (b.at a (.code c :: .inLoop c :: k)) cs w) b k cs e a' w' := by
  intro n
  induction n using Nat.strongRecOn with
  | _ n ih =>
   intro x a w hn hI
   obtain ⟨e, a₁, w₁, hq, harr⟩ := round x a w hI b (.inLoop c :: k) cs
   cases e with
   | normal =>
    obtain ⟨y, hI₁, hlt⟩ := hq
    obtain ⟨e₂, a₂, w₂, hq₂, harr₂⟩ := ih (μ y) (hn ▸ hlt) y a₁ w₁ rfl hI₁
    exact ⟨e₂, a₂, w₂, hq₂, .of_steps (Steps.trans harr (.one step_inLoop)) harr₂⟩
   | exit id => exact ⟨_, a₁, w₁, hq, .pass (x := .inLoop c) rfl (fun _ _ => .inl (by simp)) harr⟩
   | goto l => exact ⟨_, a₁, w₁, hq, .pass (x := .inLoop c) rfl (fun _ _ => .inl (by simp)) harr⟩
   | ret => exact ⟨_, a₁, w₁, hq, .pass (x := .inLoop c) rfl (fun _ _ => .inl (by simp)) harr⟩
   | panic ch => exact ⟨_, a₁, w₁, hq, .pass (x := .inLoop c) rfl (fun _ _ => .inl (by simp)) harr⟩
   | outgrown => exact ⟨_, a₁, w₁, hq, .pass (x := .inLoop c) rfl (fun _ _ => .inl (by simp)) harr⟩
 obtain ⟨e, a', w', hq, harr⟩ := key _ x0 a w rfl h₀
 exact ⟨e, a', w', hq, .of_steps (.one step_loop) harr⟩
section
variable {P : Program} {E : Env} {J : World → Prop} {c : Cx}
theorem seq_sound (hE : Ok P J E) (hJ : ∀ w, Keep c.w0.heap.size c.gs c.w0 w → J w) {ops : Array Oper} {al : List (AOper × Bool)} {nx : Nat} {K : AS → Prop} {X : AV → Prop} {Q : Exit → Act → World → Prop} (hal : al.length = ops.size)
  (hops : ∀ (i : Nat) (x : AOper × Bool), al[i]? = some x → ∃ o, ops[i]? = some o ∧ copG P ops c.n o = some x.1) (hQ : ∀ a w st' g', K st' → Rel c (fun i => nx + ops.size ≤ i) g' st' a w → Q .normal a w)
  (hX : ∀ x a w, X (.s x) → a.defers = [] → Keep c.w0.heap.size c.gs c.w0 w → Q (.panic [{ v := x, recovered := false }]) a w) :
  ∀ (l : List (AOper × Bool)) (k : Nat) {st : AS} {g : Gh} {a : Act} {w : World}, (∀ i, al[k + i]? = l[i]?) → k + l.length = ops.size → Rel c (fun i => nx + k ≤ i) g st a w → runOps P E K X (nx + k) l st →
   wpOps P ops Q (List.range' k l.length) a w
 | [], k, st, g, a, w, _, hk, R, h => by
  have : k = ops.size := by simpa using hk
  subst this
  exact hQ a w st g h R
 | (o, z) :: l, k, st, g, a, w, hl, hk, R, h => by
  rw [List.length_cons, List.range'_succ, wpOps_cons]
  have hk0 : al[k]? = some (o, z) := by rw [← Nat.add_zero k, hl 0]; rfl
  obtain ⟨oc, hoc, hcp⟩ := hops k _ hk0
  refine wpOp_mono (fun a' w' hg => ?_) (op_one (Q := Q) (X := X) hE hJ R (Nat.le_refl _) hoc hcp (K := runOps P E K X (nx + k + 1) l) ?_ hX)
  ·obtain ⟨s', hs, g', R'⟩ := hg
   exact seq_sound hE hJ hal hops hQ hX l (k + 1) (fun i => by rw [show k + 1 + i = k + (i + 1) by omega, hl]; rfl) (by simp at hk; omega) (R'.weak fun i hi => ⟨by omega, by omega⟩) (by rw [← Nat.add_assoc]; exact hs)
  ·rcases stpG_iff.1 h with ⟨s1, h1, h2⟩ | ⟨v, h1, h2⟩
   ·exact stpG_iff.2 (.inl ⟨s1, h1, h2⟩)
   ·exact stpG_iff.2 (.inr ⟨v, h1, h2.2⟩)
theorem regAl_get {ops : Array Oper} {draw : Bool} {l : List AOper} {i : Nat} {x : AOper × Bool} (h : (regAl ops draw l)[i]? = some x) : l[i]? = some x.1 := by
 unfold regAl at h
 simp only [List.getElem?_map, List.getElem?_zipIdx, Option.map_eq_some_iff] at h
 obtain ⟨y, ⟨a, ha, rfl⟩, rfl⟩ := h
 simpa using ha
theorem code_sound (hE : Ok P J E) (hJ : ∀ w, Keep c.w0.heap.size c.gs c.w0 w → J w) : ∀ (code : Code) {ac : ACode} {K : AEx → AS → Prop} {st : AS} {g : Gh} {a : Act} {w : World}, comp P c.n code = some ac → awp P E ac K st → Rel c (fun i => st.nx ≤ i) g st a w →
  code.wp P (Lift c K) a w
 | .skip, ac, K, st, g, a, w, hc, h, R => by
  simp only [comp, Option.some.injEq] at hc; subst hc
  exact wp_skip ⟨g, st, h, R⟩
 | .label _, ac, K, st, g, a, w, hc, h, R => by
  simp only [comp, Option.some.injEq] at hc; subst hc
  exact wp_label ⟨g, st, h, R⟩
 | .exit id, ac, K, st, g, a, w, hc, h, R => by
  simp only [comp, Option.some.injEq] at hc; subst hc
  exact wp_exit ⟨g, st, h, R⟩
 | .ret, ac, K, st, g, a, w, hc, h, R => by
  simp only [comp, Option.some.injEq] at hc; subst hc
  exact wp_ret ⟨g, st, h, R⟩
 | .seq x y, ac, K, st, g, a, w, hc, h, R => by
  simp only [comp] at hc
  split at hc
  ·rename_i x' y' hx hy
   cases hc
   refine wp_seq (wp_mono (code_sound hE hJ x hx h R) fun e a' w' q => ?_)
   cases e with
   | normal =>
    obtain ⟨g', s', k, R'⟩ := q
    exact code_sound hE hJ y hy k R'
   | exit id => exact q
   | ret => exact q
   | panic ch => exact q
   | goto l => exact q.elim
   | outgrown => exact q.elim
  ·cases hc
 | .cond o x y, ac, K, st, g, a, w, hc, h, R => by
  simp only [comp] at hc
  split at hc
  ·rename_i x' y' hx hy
   split at hc
   ·rename_i ho
    cases hc
    obtain ⟨t, ht, h1, h2⟩ := h
    have e : a.eval o = .bool t := sc_rep (R.ev o ho) (by rw [ht]; rfl)
    exact wp_cond_split e (fun q => code_sound hE hJ x hx (h1 q) R) (fun q => code_sound hE hJ y hy (h2 q) R)
   ·cases hc
  ·cases hc
 | .block id x, ac, K, st, g, a, w, hc, h, R => by
  simp only [comp, Option.map_eq_some_iff] at hc
  obtain ⟨x', hx, rfl⟩ := hc
  refine wp_block (wp_mono (code_sound hE hJ x hx h R) fun e a' w' q => ?_)
  cases e with
  | exit id' =>
   obtain ⟨g', s', k, R'⟩ := q
   simp only [AEx.blk] at k
   simp only [Exit.inBlock]
   split at k
   ·rename_i he; rw [if_pos he]; exact ⟨g', s', k, R'⟩
   ·rename_i he; rw [if_neg he]; exact ⟨g', s', k, R'⟩
  | normal => exact q
  | ret => exact q
  | panic ch => exact q
  | goto l => exact q.elim
  | outgrown => exact q.elim
 | .loop x, ac, K, st, g, a, w, hc, h, R => by
  simp only [comp, Option.map_eq_some_iff] at hc
  obtain ⟨x', hx, rfl⟩ := hc
  obtain ⟨ι, S, μ, i0, hle, hround⟩ := h
  refine wp_loop' (α := ι) (fun i a w => ∃ g, Rel c (fun k => (S i).nx ≤ k) g (S i) a w) μ i0 (hle c g a w R) fun i a w hs => ?_
  obtain ⟨g', R'⟩ := hs
  refine wp_mono (code_sound hE hJ x hx (hround i) R') fun e a' w' q => ?_
  cases e with
  | normal =>
   obtain ⟨g'', s', ⟨j, h1, h3⟩, R''⟩ := q
   exact ⟨j, h1 c g'' a' w' R'', h3⟩
  | exit id => exact q
  | ret => exact q
  | panic ch => exact q
  | goto l => exact q.elim
  | outgrown => exact q.elim
 | .region id ops draw, ac, K, st, g, a, w, hc, h, R => by
  simp only [comp] at hc
  split at hc
  ·rename_i l hl
   split at hc
   ·rename_i hcond
    cases hc
    obtain ⟨hlen, hget⟩ := cops_get hl
    have hal : (regAl ops draw l).length = ops.size := by simp [regAl, hlen]
    have hops : ∀ (i : Nat) (x : AOper × Bool), (regAl ops draw l)[i]? = some x → ∃ o, ops[i]? = some o ∧ copG P ops c.n o = some x.1 := fun i x hx => by
     obtain ⟨o, h1, h2⟩ := hget i x.1 (regAl_get hx)
     exact ⟨o, by simpa using h1, h2⟩
    have hQ : ∀ a w st' g', (fun s => K .normal { s with nx := st.nx + (regAl ops draw l).length }) st' → Rel c (fun i => st.nx + ops.size ≤ i) g' st' a w → Lift c K .normal a w := fun a w st' g' k R' =>
     ⟨g', _, k, ⟨R'.size, R'.defers, R'.keep, R'.sle, R'.old, R'.agr, R'.tmp, R'.box, R'.row, R'.inj, fun i hi => R'.free i (by rw [← hal]; exact hi)⟩⟩
    have hX : ∀ x a w, (fun v => K (.pan v) st) (.s x) → a.defers = [] → Keep c.w0.heap.size c.gs c.w0 w → Lift c K (.panic [{ v := x, recovered := false }]) a w := fun x a w k hd hk => ⟨x, st, rfl, k, hd, hk⟩
    cases draw with
    | false =>
     have h' := seq_sound hE hJ hal hops hQ hX (regAl ops false l) 0 (fun i => by rw [Nat.zero_add]) (by rw [hal]; omega) (R.weak fun i hi => by omega) (by rw [Nat.add_zero]; exact h)
     rw [hal] at h'
     exact wp_region (by rw [List.range_eq_range']; exact h')
    | true =>
     simp only [Bool.not_true, Bool.false_or, Bool.and_eq_true] at hcond
     have hr := runR_of (P := P) (E := E) (nx := st.nx) (regAl ops true l) 0 st (fun i => by rw [Nat.zero_add]) (by rw [Nat.add_zero]; exact h)
     refine wp_region_any hcond.2 ?_
     have R1 : Rel c (fun i => st.nx ≤ i) g st a { w with drawn := w.drawn + 1 } := R.step (w' := w.drew) ((Below.refl _ _).drew)
     refine any_sound hE hJ hal hops hcond.1 hQ hX ops.size (List.range' 0 (regAl ops true l).length) _ (by simp [hal]) (List.pairwise_lt_range' ..) (by simp) (fun i => ?_) (fun k hk o ho e he hb hin => ?_) (R1.weak fun i hi => ?_) hr ops.size (Nat.le_refl _)
     ·rw [hal, List.mem_range'_1]
      constructor
      ·rintro ⟨_, h⟩; simp at h; exact ⟨h, by simp [h]⟩
      ·rintro ⟨h, _⟩; exact ⟨Nat.zero_le _, by simpa using h⟩
     ·rw [hal, List.mem_range'_1] at hk
      have := (Array.getElem?_eq_some_iff.1 ho).1
      exact hk ⟨Nat.zero_le _, by simpa using this⟩
     ·rcases hi with hi | ⟨k, _, rfl⟩ <;> omega
   ·cases hc
  ·cases hc
 | .rangeFunc .., ac, _, _, _, _, _, hc, _, _ => by simp [comp] at hc
 | .scope _, ac, _, _, _, _, _, hc, _, _ => by simp [comp] at hc
 | .goto _, ac, _, _, _, _, _, hc, _, _ => by simp [comp] at hc
 | .refuse _, ac, _, _, _, _, _, hc, _, _ => by simp [comp] at hc
end
end Go.Proofs.YthdkjfhpbigdpaaDoor.Ev

namespace Go.Proofs.YthdkjfhpbigdpaaDoor.Ev
open Go Go.RowKit
set_option linter.unusedSimpArgs false
set_option linter.unusedVariables false

inductive RV where
 | t (t : Nat)
 | c (ag : Bool) (n : Nat) (t : Nat)
def rvOf (P : Program) : ResultVar → Option RV
 | .tmp t => some (.t t)
 | .cell a t => match aggOf P t, szOf P t with | some ag, some n => some (.c ag n a) | _, _ => none
def rvs (P : Program) : List ResultVar → Option (List RV)
 | [] => some []
 | r :: l => match rvOf P r, rvs P l with | some x, some y => some (x :: y) | _, _ => none
def getR (P : Program) (st : AS) : RV → Option AV
 | .t t => some (st.t t)
 | .c ag n t => pv P st.ev st.bx st.gr (.ld ag n (.tmp t))
def okc : AV → Bool
 | .any | .tup _ => false
 | _ => true
def getRs (P : Program) (st : AS) : List RV → Option (List AV)
 | [] => some []
 | r :: l => match getR P st r, getRs P st l with | some x, some y => if okc (strip st.gr x) then some (strip st.gr x :: y) else none | _, _ => none
def outOf (P : Program) (st : AS) (rs : List RV) : Option AV :=
 match getRs P st rs with
 | some [x] => some x
 | some l => some (.tup l)
 | none => none
def refRs (P : Program) (st : AS) : List RV → List Nat
 | [] => []
 | r :: l => (match getR P st r with | some x => refs x | none => []) ++ refRs P st l
def start (args : List AV) : AS := ⟨fun i => (args[i]?).getD .any, fun _ => none, fun _ => none, 0⟩
def fin (P : Program) (rs : List RV) (K : AOut → Prop) : AEx → AS → Prop
 | .normal, s | .ret, s => ∃ v, outOf P s rs = some v ∧ K (.ret v)
 | .pan v, _ => K (.pan v)
 | _, _ => False
section
variable {P : Program} {E : Env} {J : World → Prop} {c : Cx} {fr : Nat → Prop} {g : Gh} {st : AS} {a : Act} {w : World}
def rRun (a : Act) (r : ResultVar) : Sem Value := match r with
 | .tmp t => pure (a.tmps.getD t undef)
 | .cell b t => do loadVar t (← asAddr (a.tmps.getD b undef))
theorem getR_run (R : Rel c fr g st a w) {r : ResultVar} {v : RV} (hr : rvOf P r = some v) {x : AV} (h : getR P st v = some x) : ∃ u, (rRun a r).run P w = .ok u w ∧ Rep g x u := by
 cases r with
 | tmp t =>
  simp only [rvOf, Option.some.injEq] at hr; subst hr
  simp only [getR, Option.some.injEq] at h; subst h
  exact ⟨_, rfl, R.tmp t⟩
 | cell b t =>
  simp only [rvOf] at hr
  split at hr
  ·rename_i ag n ha hs
   cases hr
   obtain ⟨u, hu, rp⟩ := pv_ld (dst := none) (type := 0) (pos := "") (after := #[]) (guard := none) R ha hs (x := .tmp b) rfl h
   refine ⟨u, ?_, rp⟩
   simp only [execOp, Instr.loadAt, Act.eval, Sem.run_bind] at hu
   simp only [rRun, Sem.run_bind]
   generalize a.tmps.getD b undef = q at hu ⊢
   cases q with
   | pointer p =>
    cases p with
    | none => simp [Instr.sureAddr] at hu
    | some p =>
     simp only [Instr.sureAddr, asAddr, Sem.run_pure, Result.andThen_ok] at hu ⊢
     generalize (loadVar t p).run P w = q at hu ⊢
     cases q with
     | ok x w' =>
      simp only [Result.andThen_ok] at hu
      simp only [Sem.run_pure, Result.ok.injEq, Next.value.injEq] at hu
      obtain ⟨rfl, rfl⟩ := hu
      rfl
     | halt e w' => simp at hu
   | _ => simp [Instr.sureAddr] at hu
  ·cases hr
theorem strip_ncom (R : Rel c fr g st a w) {y : AV} {u : Value} (h : Rep g y u) (hs : Shut st.gr (refs y)) (hn : okc (strip st.gr y) = true) : Com (g0 g.S) (strip st.gr y) u := by
 cases h with
 | com cm => exact strip_com R cm hs
 | tup cs => simp [strip, okc] at hn
 | any => simp [strip, pcell, okc] at hn
theorem getRs_run (R : Rel c fr g st a w) : ∀ {rs : List ResultVar} {vs : List RV} {xs : List AV}, rvs P rs = some vs → Shut st.gr (refRs P st vs) → getRs P st vs = some xs → ∃ us : List Value, (rs.mapM (rRun a)).run P w = .ok us w ∧ All2 (Com (g0 g.S)) xs us
 | [], vs, xs, h, _, k => by
  simp only [rvs, Option.some.injEq] at h; subst h
  simp only [getRs, Option.some.injEq] at k; subst k
  exact ⟨[], rfl, .nil⟩
 | r :: rs, vs, xs, h, hs, k => by
  simp only [rvs] at h
  split at h
  ·rename_i v vs' h1 h2
   cases h
   simp only [getRs] at k
   split at k
   ·rename_i x xs' k1 k2
    split at k
    ·rename_i hok
     cases k
     obtain ⟨u, e1, r1⟩ := getR_run R h1 k1
     obtain ⟨us, e2, r2⟩ := getRs_run R h2 (fun k hk => hs k (by simp only [refRs]; exact List.mem_append_right _ hk)) k2
     refine ⟨u :: us, ?_, .cons (strip_ncom R r1 (fun k hk => hs k (by simp only [refRs, k1]; exact List.mem_append_left _ hk)) hok) r2⟩
     rw [List.mapM_cons, Sem.run_bind, e1]
     simp only [Result.andThen_ok]
     rw [Sem.run_bind, e2]
     rfl
    ·cases k
   ·cases k
  ·cases h
theorem results_run (R : Rel c fr g st a w) {fn : Func} {vs : List RV} (h : rvs P fn.results.toList = some vs) (hs : Shut st.gr (refRs P st vs)) {x : AV} (k : outOf P st vs = some x) : ∃ u, (results fn a.tmps).run P w = .ok u w ∧ Rep (g0 g.S) x u := by
 unfold outOf at k
 have go : ∀ xs, getRs P st vs = some xs → ∃ us : List Value, (fn.results.mapM (rRun a)).run P w = .ok us.toArray w ∧ All2 (Com (g0 g.S)) xs us := fun xs hx => by
  obtain ⟨us, e, r⟩ := getRs_run R h hs hx
  refine ⟨us, ?_, r⟩
  have : (fn.results.mapM (rRun a)) = (do let l ← fn.results.toList.mapM (rRun a); pure l.toArray) := by
   rw [← Array.toArray_toList (xs := fn.results), List.mapM_toArray]
   simp
  rw [this, Sem.run_bind, e]
  rfl
 have hres : ∀ us : List Value, (fn.results.mapM (rRun a)).run P w = .ok us.toArray w → (results fn a.tmps).run P w = .ok (if h : us.toArray.size = 1 then us.toArray[0] else .tuple us.toArray) w := fun us e => by
  have : results fn a.tmps = (do let vs ← fn.results.mapM (rRun a); pure (if h : vs.size = 1 then vs[0] else .tuple vs)) := rfl
  rw [this, Sem.run_bind, e]
  rfl
 split at k
 ·rename_i y hy
  cases k
  obtain ⟨us, e, r⟩ := go _ hy
  cases r with
  | cons r1 r2 => cases r2; exact ⟨_, hres _ e, .com r1⟩
 ·rename_i l hne hy
  cases k
  obtain ⟨us, e, r⟩ := go _ hy
  refine ⟨_, hres _ e, ?_⟩
  have hlen : ¬ us.toArray.size = 1 := fun h1 => by
   have : l.length = 1 := by rw [r.length]; simpa using h1
   match l, this with
   | [y], _ => exact hne y rfl
  rw [dif_neg hlen]
  exact .tup r
 ·cases k
theorem fn_sound (hE : Ok P J E) (hJ : ∀ w w', Below w.heap.size w w' → J w → J w') {f : FuncId} {fn : Func} {code : Code} {ac : ACode} {vs : List RV} (hf : P.funcs[f]? = some fn) (hb : fn.body = some code)
  (hc : comp P fn.ntmps code = some ac) (hr : rvs P fn.results.toList = some vs) {args : List AV} (hn : args.length ≤ fn.ntmps) {out : AOut} (h : awp P E ac (fin P vs (· = out)) (start args))
  (S : Snap) (w : World) (us : List Value) (hw : J w) (hA : Agr S w) (ha : All2 (Rep (g0 S)) args us) : Calls P f us.toArray w (Post S w out) := by
 refine calls_of_wp hf hb (wp_mono (code_sound (c := ⟨w, S, fn.ntmps, []⟩) (g := g0 S) hE (fun w' hk => hJ w w' hk.below hw) code hc h ?_) fun e a' w' q => ?_)
 ·have hl := ha.length
  refine ⟨by simp; omega, rfl, .refl _ _ _, SLe.refl _, fun _ _ _ => rfl, hA, fun i => ?_, fun b cs hb => by simp [start] at hb, fun k r hk => by simp [start] at hk, fun x y h hx hy => ?_, fun i _ => ⟨rfl, rfl⟩⟩
  ·have hd : (us.toArray ++ Array.replicate (fn.ntmps - us.toArray.size) undef).getD i undef = us[i]?.getD undef := by
    by_cases hi : i < us.length
    ·simp [Array.getElem?_append, hi]
    ·simp [Array.getElem?_append, hi, Array.getElem?_replicate, List.getElem?_eq_none (Nat.le_of_not_lt hi)]
     split <;> rfl
   rw [hd]
   show Rep _ ((args[i]?).getD .any) _
   cases hq : args[i]? with
   | none =>
    exact .any
   | some x =>
    obtain ⟨u, hu, rp⟩ := ha.get hq
    rw [hu]; exact rp
  ·obtain ⟨t, i⟩ := x
   cases t <;> simp [Owns, start] at hx
 ·have ret : ∀ (s : AS) (g' : Gh), (∃ v, outOf P s vs = some v ∧ AOut.ret v = out) → Rel ⟨w, S, fn.ntmps, []⟩ (fun i => s.nx ≤ i) g' s a' w' → a'.defers = [] ∧ ∃ v, (results fn a'.tmps).run P w' = .ok v w' ∧ Post S w out (.returned v) w' := fun s g' ⟨v, hv, ho⟩ R => by
   obtain ⟨g2, L2, _, _, R2⟩ := R.shuts (refRs P s vs)
   have hgr : ∀ ks, outOf P { s with gr := shut s.gr ks } vs = outOf P s vs ∧ refRs P { s with gr := shut s.gr ks } vs = refRs P s vs := fun ks => by
    have e1 : ({ s with gr := shut s.gr ks } : AS).ev = s.ev := by funext x; cases x <;> rfl
    have e2 : ∀ v, getR P { s with gr := shut s.gr ks } v = getR P s v := fun v => by
     cases v with
     | t t => rfl
     | c ag n t =>
      simp only [getR, pv, e1]
      cases s.ev (.tmp t) <;> try rfl
      rename_i k sz i o
      simp only [shut]
      by_cases hk : k ∈ ks
      ·simp only [hk, if_true]; cases s.gr k <;> rfl
      ·simp only [hk, if_false]
    have e3 : ∀ l, getRs P { s with gr := shut s.gr ks } l = getRs P s l := fun l => by
     induction l with
     | nil => rfl
     | cons v l ih => simp only [getRs, e2, ih, strip_shut]
    refine ⟨by unfold outOf; rw [e3], ?_⟩
    have : ∀ l, refRs P { s with gr := shut s.gr ks } l = refRs P s l := fun l => by
     induction l with
     | nil => rfl
     | cons v l ih => simp only [refRs, e2, ih]
    exact this vs
   obtain ⟨u, hu, rp⟩ := results_run R2 hr (by rw [(hgr _).2]; exact shut_shut) (by rw [(hgr _).1]; exact hv)
   subst ho
   exact ⟨R.defers, u, hu, g2.S, R2.sle, R2.old, R2.agr, R.keep.below, rp⟩
  cases e with
  | normal => obtain ⟨g', s, k, R⟩ := q; exact ret s g' k R
  | ret => obtain ⟨g', s, k, R⟩ := q; exact ret s g' k R
  | panic ch =>
   obtain ⟨x, s, rfl, k, hd, hk⟩ := q
   have k' : AOut.pan (.s x) = out := k
   subst k'
   exact ⟨hd, x, rfl, rfl, hk.below⟩
  | exit id => obtain ⟨g', s, k, R⟩ := q; exact k
  | goto l => exact q.elim
  | outgrown => exact q.elim
end
end Go.Proofs.YthdkjfhpbigdpaaDoor.Ev

namespace Go.Proofs.YthdkjfhpbigdpaaDoor.Ev
open Go Go.RowKit
abbrev T (n : Nat) : Operand := .tmp n
abbrev I (n : Int) : Operand := .const (.int .i64 n)
abbrev U8 (n : Int) : Operand := .const (.int .u8 n)
abbrev B (b : Bool) : Operand := .const (.bool b)
abbrev S (l : List UInt8) : Operand := .const (.string ⟨l.toArray⟩)
abbrev NilS : Operand := .const (.slice none 0 0)
abbrev a (d : Nat) (op : AOp) : AOper × Bool := (⟨some d, none, op⟩, false)
abbrev b (d : Nat) (op : AOp) : AOper × Bool := (⟨some d, none, op⟩, true)
abbrev a0 (op : AOp) : AOper × Bool := (⟨none, none, op⟩, false)
abbrev b0 (op : AOp) : AOper × Bool := (⟨none, none, op⟩, true)
abbrev ag (d t : Nat) (w : Bool) (op : AOp) : AOper × Bool := (⟨some d, some (t, w), op⟩, false)
abbrev bg (d t : Nat) (w : Bool) (op : AOp) : AOper × Bool := (⟨some d, some (t, w), op⟩, true)
end Go.Proofs.YthdkjfhpbigdpaaDoor.Ev

namespace Go.Proofs.YthdkjfhpbigdpaaDoor.Ev
open Go Go.RowKit
set_option linter.unusedSimpArgs false
set_option linter.unusedVariables false
def tm : List (Nat × AV) → Nat → AV
 | [], _ => .any
 | (d, v) :: l, i => if i = d then v else tm l i
def bm {α : Type} : List (Nat × Option α) → Nat → Option α
 | [], _ => none
 | (d, v) :: l, i => if i = d then v else bm l i
theorem start1 (x : AV) : start [x] = ⟨tm [(0, x)], bm [], bm [], 0⟩ := by
 unfold start; congr; funext i; rcases i with _ | i <;> simp [tm]
theorem start0 : start [] = ⟨tm [], bm [], bm [], 0⟩ := by
 unfold start; congr
theorem start2 (x y : AV) : start [x, y] = ⟨tm [(0, x), (1, y)], bm [], bm [], 0⟩ := by
 unfold start; congr; funext i; rcases i with _ | _ | i <;> simp [tm]
theorem start3 (x y z : AV) : start [x, y, z] = ⟨tm [(0, x), (1, y), (2, z)], bm [], bm [], 0⟩ := by
 unfold start; congr; funext i; rcases i with _ | _ | _ | i <;> simp [tm]
theorem start4 (x y z u : AV) : start [x, y, z, u] = ⟨tm [(0, x), (1, y), (2, z), (3, u)], bm [], bm [], 0⟩ := by
 unfold start; congr; funext i; rcases i with _ | _ | _ | _ | i <;> simp [tm]
section
variable {l : List (Nat × AV)} {bx : List (Nat × Option (List AV))} {lv : List (Nat × Option GR)} {nx i d : Nat} {v : AV}
theorem put_some : AS.put ⟨tm l, bm bx, bm lv, nx⟩ (some d) v = ⟨tm ((d, v) :: l), bm bx, bm lv, nx⟩ := rfl
theorem put_none {st : AS} : AS.put st none v = st := rfl
theorem upd_bm {α : Type} {l : List (Nat × Option α)} {o : Option α} : upd (bm l) i o = bm ((i, o) :: l) := rfl
theorem tm_hit : tm ((i, v) :: l) i = v := if_pos rfl
theorem tm_miss (h : i ≠ d) : tm ((d, v) :: l) i = tm l i := if_neg h
theorem bm_hit {α : Type} {l : List (Nat × Option α)} {o : Option α} : bm ((i, o) :: l) i = o := if_pos rfl
theorem bm_miss {α : Type} {l : List (Nat × Option α)} {o : Option α} (h : i ≠ d) : bm ((d, o) :: l) i = bm l i := if_neg h
theorem ev_t {bx : Nat → Option (List AV)} {lv : Gr} : AS.ev ⟨tm l, bx, lv, nx⟩ (.tmp i) = tm l i := rfl
theorem ev_I {st : AS} {n : Int} : st.ev (I n) = .s (.int .i64 n) := rfl
theorem ev_U8 {st : AS} {n : Int} : st.ev (U8 n) = .s (.int .u8 n) := rfl
theorem ev_B {st : AS} {x : Bool} : st.ev (B x) = .s (.bool x) := rfl
theorem ev_S {st : AS} {x : List UInt8} : st.ev (S x) = .s (.string ⟨x.toArray⟩) := rfl
theorem ev_Nil {st : AS} : st.ev NilS = .s (.slice none 0 0) := rfl
end
theorem shut_bm {l : List (Nat × Option GR)} {ks : List Nat} : shut (bm l) ks = bm (l.map fun p => (p.1, if p.1 ∈ ks then p.2.map GR.shut else p.2)) := by
 funext k
 induction l with
 | nil => simp [shut, bm]
 | cons p l ih =>
  simp only [List.map_cons, bm]
  unfold shut at ih ⊢
  by_cases hk : k = p.1
  ·subst hk; simp [bm]
  ·simp only [bm, hk, if_false]; exact ih
theorem shut_no {gr : Gr} : shut gr [] = gr := shut_nil
section
variable {P : Program} {E : Env} {K : AS → Prop} {X : AV → Prop} {id nx t : Nat} {d : Option Nat} {op : AOp} {z : Bool} {l : List (AOper × Bool)} {st : AS} {L : List (Nat × AV)} {bx : Nat → Option (List AV)} {gr : Gr}
theorem r_nil : runOps P E K X id [] ⟨tm L, bx, gr, nx⟩ = K ⟨tm L, bx, gr, nx⟩ := rfl
theorem r_op : runOps P E K X id ((⟨d, none, op⟩, z) :: l) ⟨tm L, bx, gr, nx⟩ = stp P E id ⟨tm L, bx, gr, nx⟩ d (runOps P E K X (id + 1) l) (fun v => z = true ∧ X v) op := by
 simp [runOps, stpG, want]
theorem r_g1 (h : tm L t = .s (.bool true)) : runOps P E K X id ((⟨d, some (t, true), op⟩, z) :: l) ⟨tm L, bx, gr, nx⟩ = stp P E id ⟨tm L, bx, gr, nx⟩ d (runOps P E K X (id + 1) l) (fun v => z = true ∧ X v) op := by
 simp [runOps, stpG, want, h]
theorem r_g2 (h : tm L t = .s (.bool false)) : runOps P E K X id ((⟨d, some (t, false), op⟩, z) :: l) ⟨tm L, bx, gr, nx⟩ = stp P E id ⟨tm L, bx, gr, nx⟩ d (runOps P E K X (id + 1) l) (fun v => z = true ∧ X v) op := by
 simp [runOps, stpG, want, h]
theorem r_n1 (h : tm L t = .s (.bool false)) : runOps P E K X id ((⟨d, some (t, true), op⟩, z) :: l) ⟨tm L, bx, gr, nx⟩ = runOps P E K X (id + 1) l (AS.put ⟨tm L, bx, gr, nx⟩ d (.tup [])) := by
 simp [runOps, stpG, want, h]
theorem r_n2 (h : tm L t = .s (.bool true)) : runOps P E K X id ((⟨d, some (t, false), op⟩, z) :: l) ⟨tm L, bx, gr, nx⟩ = runOps P E K X (id + 1) l (AS.put ⟨tm L, bx, gr, nx⟩ d (.tup [])) := by
 simp [runOps, stpG, want, h]
theorem r_n3 {w : Bool} (h : tm L t = .tup []) : runOps P E K X id ((⟨d, some (t, w), op⟩, z) :: l) ⟨tm L, bx, gr, nx⟩ = runOps P E K X (id + 1) l (AS.put ⟨tm L, bx, gr, nx⟩ d (.tup [])) := by
 simp [runOps, stpG, want, h]
end
section
variable {P : Program} {E : Env} {K : AEx → AS → Prop} {nx : Nat} {L : List (Nat × AV)} {bx : Nat → Option (List AV)} {gr : Gr}
theorem a_skip : awp P E .skip K ⟨tm L, bx, gr, nx⟩ = K .normal ⟨tm L, bx, gr, nx⟩ := rfl
theorem a_reg {al : List (AOper × Bool)} : awp P E (.reg al) K ⟨tm L, bx, gr, nx⟩ = runOps P E (fun s => K .normal { s with nx := nx + al.length }) (fun v => K (.pan v) ⟨tm L, bx, gr, nx⟩) nx al ⟨tm L, bx, gr, nx⟩ := rfl
theorem a_seq {x y : ACode} : awp P E (.seq x y) K ⟨tm L, bx, gr, nx⟩ = awp P E x (AEx.seq K (awp P E y K)) ⟨tm L, bx, gr, nx⟩ := rfl
theorem a_cond {c : Operand} {x y : ACode} : awp P E (.cond c x y) K ⟨tm L, bx, gr, nx⟩ = ∃ t, AS.ev ⟨tm L, bx, gr, nx⟩ c = .s (.bool t) ∧ (t = true → awp P E x K ⟨tm L, bx, gr, nx⟩) ∧ (t = false → awp P E y K ⟨tm L, bx, gr, nx⟩) := rfl
theorem a_block {i : Nat} {x : ACode} : awp P E (.block i x) K ⟨tm L, bx, gr, nx⟩ = awp P E x (AEx.blk i K) ⟨tm L, bx, gr, nx⟩ := rfl
theorem a_exit {i : Nat} : awp P E (.exit i) K ⟨tm L, bx, gr, nx⟩ = K (.exit i) ⟨tm L, bx, gr, nx⟩ := rfl
theorem a_ret : awp P E .ret K ⟨tm L, bx, gr, nx⟩ = K .ret ⟨tm L, bx, gr, nx⟩ := rfl
theorem f_ret {rs : List RV} {K : AOut → Prop} : fin P rs K .ret ⟨tm L, bx, gr, nx⟩ = ∃ v, outOf P ⟨tm L, bx, gr, nx⟩ rs = some v ∧ K (.ret v) := rfl
theorem f_normal {rs : List RV} {K : AOut → Prop} : fin P rs K .normal ⟨tm L, bx, gr, nx⟩ = ∃ v, outOf P ⟨tm L, bx, gr, nx⟩ rs = some v ∧ K (.ret v) := rfl
theorem f_pan {rs : List RV} {K : AOut → Prop} {v : AV} {s : AS} : fin P rs K (.pan v) s = K (.pan v) := rfl
theorem q_normal {N : AS → Prop} {s : AS} : AEx.seq K N .normal s = N s := rfl
theorem q_exit {N : AS → Prop} {s : AS} {i : Nat} : AEx.seq K N (.exit i) s = K (.exit i) s := rfl
theorem q_ret {N : AS → Prop} {s : AS} : AEx.seq K N .ret s = K .ret s := rfl
theorem q_pan {N : AS → Prop} {s : AS} {v : AV} : AEx.seq K N (.pan v) s = K (.pan v) s := rfl
theorem k_hit {s : AS} {i : Nat} : AEx.blk i K (.exit i) s = K .normal s := if_pos rfl
theorem k_miss {s : AS} {i j : Nat} (h : i ≠ j) : AEx.blk j K (.exit i) s = K (.exit i) s := if_neg h
theorem k_normal {s : AS} {i : Nat} : AEx.blk i K .normal s = K .normal s := rfl
theorem k_ret {s : AS} {i : Nat} : AEx.blk i K .ret s = K .ret s := rfl
theorem k_pan {s : AS} {i : Nat} {v : AV} : AEx.blk i K (.pan v) s = K (.pan v) s := rfl
end
def subC (nx : Nat) (ρ : Nat → Option Nat) : AV → AV → Prop
 | .any, _ => True
 | .s x, y => y = .s x
 | .row xs, y => y = .row xs
 | .elt cs o, y => y = .elt cs o
 | .ref k, .ref j => k < nx ∧ ρ k = some j
 | .ref k, .s (.slice none 0 0) => k < nx ∧ ρ k = none
 | .ptr b o, .ptr c o' => b < nx ∧ ρ b = some c ∧ o = o'
 | _, _ => False
def subs (nx : Nat) (ρ : Nat → Option Nat) : List AV → List AV → Prop
 | [], [] => True
 | a :: la, b :: bs => subC nx ρ a b ∧ subs nx ρ la bs
 | _, _ => False
def subT (nx : Nat) (ρ : Nat → Option Nat) : AV → AV → Prop
 | .agg cs, .agg ds => subs nx ρ cs ds
 | a, b => subC nx ρ a b
def tsub (nx : Nat) (ρ : Nat → Option Nat) (s : AS) : List (Nat × AV) → Prop
 | [] => True
 | p :: l => subT nx ρ p.2 (s.t p.1) ∧ tsub nx ρ s l
def bsub (nx : Nat) (ρ : Nat → Option Nat) (s : AS) : List (Nat × Option (List AV)) → Prop
 | [] => True
 | (b, some cs) :: l => (b < nx ∧ ∃ c ds, ρ b = some c ∧ s.bx c = some ds ∧ subs nx ρ cs ds) ∧ bsub nx ρ s l
 | (_, none) :: l => bsub nx ρ s l
def gsub (nx : Nat) (ρ : Nat → Option Nat) (s : AS) : List (Nat × Option GR) → Prop
 | [] => True
 | (k, some r) :: l => (k < nx ∧ (match ρ k with | some j => s.gr j = some r | none => r.xs = [])) ∧ gsub nx ρ s l
 | (_, none) :: l => gsub nx ρ s l
def onto : List (Nat × Nat) → Nat → Option Nat
 | [], _ => none
 | (a, b) :: l, i => if i = a then some b else onto l i
theorem onto_inj {l : List (Nat × Nat)} (h : (l.map (·.2)).Nodup) : ∀ {x y k : Nat}, onto l x = some k → onto l y = some k → x = y := by
 induction l with
 | nil => intro x y k h; cases h
 | cons p l ih =>
  obtain ⟨a, b⟩ := p
  simp only [List.map_cons, List.nodup_cons] at h
  have mem : ∀ {l : List (Nat × Nat)} {x k : Nat}, onto l x = some k → k ∈ l.map (·.2) := fun {l} => by
   induction l with
   | nil => intro x k h; cases h
   | cons p l ih =>
    intro x k h
    simp only [onto] at h
    split at h
    ·cases h; simp
    ·simp only [List.map_cons]; exact List.mem_cons_of_mem _ (ih h)
  intro x y k hx hy
  simp only [onto] at hx hy
  split at hx <;> split at hy
  ·rename_i p q; rw [p, q]
  ·cases hx; exact absurd (mem hy) h.1
  ·cases hy; exact absurd (mem hx) h.1
  ·exact ih h.2 hx hy
section
variable {c : Cx} {g : Gh} {s : AS} {a : Act} {w : World} {nx : Nat} {ρ : Nat → Option Nat}
def ghOf (g : Gh) (nx : Nat) (ρ : Nat → Option Nat) : Gh :=
 ⟨g.S, fun b => if b < nx then (ρ b).bind g.ι else none, fun k => if k < nx then (match ρ k with | some j => g.τ j | none => some (.slice none 0 0)) else none⟩
theorem subC_rep {x y : AV} {v : Value} (h : Cel g y v) (k : subC nx ρ x y) : Cel (ghOf g nx ρ) x v := by
 unfold subC at k
 split at k
 ·exact .pur (.any h.one)
 ·subst k; cases h with | pur p => exact .pur p
 ·subst k; cases h with | pur p => exact .pur p
 ·subst k
  cases h with
  | elt p => exact .elt p
  | pur p => cases p
 ·cases h with
  | ref e o => exact .ref (by simp [ghOf, k.1, k.2, e]) o
  | pur p => cases p
 ·cases h with | pur p => cases p; exact .ref (by simp [ghOf, k.1, k.2]) rfl
 ·obtain ⟨k1, k2, rfl⟩ := k
  cases h with
  | ptr e => exact .ptr (by simp [ghOf, k1, k2, e])
  | pur p => cases p
 ·exact k.elim
theorem subs_rep : ∀ {xs ys : List AV} {vs : List Value}, All2 (Cel g) ys vs → subs nx ρ xs ys → All2 (Cel (ghOf g nx ρ)) xs vs
 | [], [], _, .nil, _ => .nil
 | x :: xs, y :: ys, _, .cons h r, k => .cons (subC_rep h k.1) (subs_rep r k.2)
theorem subT_rep {x y : AV} {v : Value} (h : Rep g y v) (k : subT nx ρ x y) : Rep (ghOf g nx ρ) x v := by
 unfold subT at k
 split at k
 ·cases h with
  | com cm => cases cm with
   | cel cl => cases cl with | pur p => cases p
   | agg cs => exact .com (.agg (subs_rep cs k))
 ·rename_i hne
  by_cases hx : x = .any
  ·subst hx; exact .any
  ·have hcel : Cel g y v := by
    refine Cel.conv h (fun cs e => ?_) (fun cs e => ?_) (fun e => ?_) <;> subst e <;> cases x <;> simp [subC] at k hx
   exact rep_cel (subC_rep hcel k)
theorem tsub_get {l : List (Nat × AV)} (h : tsub nx ρ s l) (i : Nat) : tm l i = .any ∨ subT nx ρ (tm l i) (s.t i) := by
 induction l with
 | nil => exact .inl rfl
 | cons p l ih =>
  obtain ⟨d, v⟩ := p
  by_cases hi : i = d
  ·subst hi; rw [tm_hit]; exact .inr h.1
  ·rw [tm_miss hi]; exact ih h.2
theorem bsub_get {l : List (Nat × Option (List AV))} (h : bsub nx ρ s l) {b : Nat} {cs : List AV} (hb : bm l b = some cs) : b < nx ∧ ∃ c ds, ρ b = some c ∧ s.bx c = some ds ∧ subs nx ρ cs ds := by
 induction l with
 | nil => cases hb
 | cons p l ih =>
  obtain ⟨d, v⟩ := p
  by_cases hi : b = d
  ·subst hi; rw [bm_hit] at hb; subst hb; exact h.1
  ·rw [bm_miss hi] at hb
   cases v with
   | none => exact ih h hb
   | some q => exact ih h.2 hb
theorem gsub_get {l : List (Nat × Option GR)} (h : gsub nx ρ s l) {k : Nat} {r : GR} (hk : bm l k = some r) : k < nx ∧ (match ρ k with | some j => s.gr j = some r | none => r.xs = []) := by
 induction l with
 | nil => cases hk
 | cons p l ih =>
  obtain ⟨d, v⟩ := p
  by_cases hi : k = d
  ·subst hi; rw [bm_hit] at hk; subst hk; exact h.1
  ·rw [bm_miss hi] at hk
   cases v with
   | none => exact ih h hk
   | some q => exact ih h.2 hk
theorem le_mk {L : List (Nat × AV)} {B : List (Nat × Option (List AV))} {G : List (Nat × Option GR)} (m : List (Nat × Nat)) (hm : (m.map (·.2)).Nodup) (hT : tsub nx (onto m) s L) (hB : bsub nx (onto m) s B) (hG : gsub nx (onto m) s G) : Le ⟨tm L, bm B, bm G, nx⟩ s := by
 intro c g a w R
 have hinj : ∀ {x y k : Nat}, onto m x = some k → onto m y = some k → x = y := onto_inj hm
 have own : ∀ x h, Owns ⟨tm L, bm B, bm G, nx⟩ (ghOf g nx (onto m)) x h → ∃ k, onto m x.2 = some k ∧ Owns s g (x.1, k) h := fun x h => by
  obtain ⟨t, i⟩ := x
  cases t with
  | true =>
   rintro ⟨h1, h2⟩
   cases hb : bm B i with
   | none => exact absurd hb h1
   | some cs =>
    obtain ⟨k1, c', ds, k2, k3, _⟩ := bsub_get hB hb
    simp only [ghOf, k1, if_true, k2, Option.bind_some] at h2
    exact ⟨c', k2, by simp [k3], h2⟩
  | false =>
   rintro ⟨⟨r, h1, hl⟩, v, h2, h3⟩
   obtain ⟨k1, k2⟩ := gsub_get hG h1
   simp only [ghOf, k1, if_true] at h2
   split at k2
   ·rename_i j hj
    rw [hj] at h2
    exact ⟨j, hj, ⟨r, k2, hl⟩, v, h2, h3⟩
   ·rename_i hj
    rw [hj] at h2; cases h2; cases h3
 refine ⟨ghOf g nx (onto m), R.size, R.defers, R.keep, R.sle, R.old, R.agr, fun i => ?_, fun b cs hb => ?_, fun k r hk => ?_, fun x y h hx hy => ?_, fun i hi => ?_⟩
 ·rcases tsub_get hT i with h | h
  ·show Rep _ (tm L i) _; rw [h]; exact .any
  ·exact subT_rep (R.tmp i) h
 ·obtain ⟨k1, c', ds, k2, k3, k4⟩ := bsub_get hB hb
  obtain ⟨h, vs, T, e, q, hh, hc, hs⟩ := R.box c' ds k3
  exact ⟨h, vs, T, by simp [ghOf, k1, k2, e], q, hh, subs_rep hc k4, hs⟩
 ·obtain ⟨k1, k2⟩ := gsub_get hG hk
  split at k2
  ·rename_i j hj
   obtain ⟨v, e1, e2⟩ := R.row j r k2
   exact ⟨v, by simp [ghOf, k1, hj, e1], e2⟩
  ·rename_i hj
   have hx : r.xs = [] := k2
   refine ⟨.slice none 0 0, by simp [ghOf, k1, hj], ⟨by simp [hx], .inl rfl⟩, fun _ => ⟨[], by rw [hx]; exact World.ownsRow_nil w _ r.e r.sz, by rw [hx]; exact .nil, by simp [Value.ownBlock]⟩, fun _ => by rw [hx]; exact .nil⟩
 ·obtain ⟨k1, p1, q1⟩ := own x h hx
  obtain ⟨k2, p2, q2⟩ := own y h hy
  have := R.inj _ _ h q1 q2
  obtain ⟨x1, x2⟩ := x
  obtain ⟨y1, y2⟩ := y
  simp only [Prod.mk.injEq] at this ⊢
  exact ⟨this.1, hinj p1 (by rw [this.2]; exact p2)⟩
 ·have : ¬ i < nx := Nat.not_lt.2 hi
  exact ⟨by simp [ghOf, this], by simp [ghOf, this]⟩
end
theorem loop {P : Program} {E : Env} {K : AEx → AS → Prop} {x : ACode} {st : AS} {ι : Type} (S : ι → AS) (μ : ι → Nat) (i0 : ι) (h0 : Le (S i0) st) (h : ∀ i, awp P E x (AEx.seq K fun s' => ∃ j, Le (S j) s' ∧ μ j < μ i) (S i)) : awp P E (.loop x) K st := ⟨ι, S, μ, i0, h0, h⟩
section
variable {P : Program} {t : TypeId} {x y : Operand} {i j : Int} {k : IntKind} {p q : Bool} {s u : ByteArray}
theorem v_add : scv P (.bin .add t) [x, y] [.int .i64 i, .int .i64 j] = some (.s (.int .i64 (IntKind.i64.wrap (i + j)))) := rfl
theorem v_sub : scv P (.bin .sub t) [x, y] [.int .i64 i, .int .i64 j] = some (.s (.int .i64 (IntKind.i64.wrap (i - j)))) := rfl
theorem v_mul : scv P (.bin .mul t) [x, y] [.int .i64 i, .int .i64 j] = some (.s (.int .i64 (IntKind.i64.wrap (i * j)))) := rfl
theorem v_lss : scv P (.bin .lss t) [x, y] [.int .i64 i, .int .i64 j] = some (.s (.bool (decide (i < j)))) := rfl
theorem v_leq : scv P (.bin .leq t) [x, y] [.int .i64 i, .int .i64 j] = some (.s (.bool (decide (i ≤ j)))) := rfl
theorem v_gtr : scv P (.bin .gtr t) [x, y] [.int .i64 i, .int .i64 j] = some (.s (.bool (decide (i > j)))) := rfl
theorem v_geq : scv P (.bin .geq t) [x, y] [.int .i64 i, .int .i64 j] = some (.s (.bool (decide (i ≥ j)))) := rfl
theorem v_eql : scv P (.bin .eql t) [x, y] [.int .i64 i, .int .i64 j] = some (.s (.bool (i == j))) := rfl
theorem v_neq : scv P (.bin .neq t) [x, y] [.int .i64 i, .int .i64 j] = some (.s (.bool (i != j))) := rfl
theorem b_leq : scv P (.bin .leq t) [x, y] [.int .u8 i, .int .u8 j] = some (.s (.bool (decide (i ≤ j)))) := rfl
theorem b_geq : scv P (.bin .geq t) [x, y] [.int .u8 i, .int .u8 j] = some (.s (.bool (decide (i ≥ j)))) := rfl
theorem b_eql : scv P (.bin .eql t) [x, y] [.int .u8 i, .int .u8 j] = some (.s (.bool (i == j))) := rfl
theorem b_neq : scv P (.bin .neq t) [x, y] [.int .u8 i, .int .u8 j] = some (.s (.bool (i != j))) := rfl
theorem eq_toList : (s.toList == u.toList) = decide (s = u) := by
 have e : ∀ {s u : ByteArray}, s.toList = u.toList → s = u := fun {s u} h => by
  have h' : s.data.toList = u.data.toList := by
   have k : ∀ b : ByteArray, b.toList = b.data.toList := fun b => ByteArray.toList_eq b
   rw [← k, ← k]; exact h
  cases s; cases u; simp only [ByteArray.mk.injEq]; exact Array.toList_inj.1 h'
 by_cases h : s = u
 ·subst h; simp
 ·simp [h]; exact fun k => h (e k)
theorem s_eql : scv P (.bin .eql t) [x, y] [.string s, .string u] = some (.s (.bool (decide (s = u)))) := by rw [← eq_toList]; rfl
theorem s_neq : scv P (.bin .neq t) [x, y] [.string s, .string u] = some (.s (.bool (!decide (s = u)))) := by rw [← eq_toList]; rfl
theorem u_not : scv P (.un .not) [x] [.bool p] = some (.s (.bool !p)) := rfl
theorem u_neg : scv P (.un .neg) [x] [.int .i64 i] = some (.s (.int .i64 (IntKind.i64.wrap (0 - i)))) := rfl
theorem v_quo (h : j ≠ 0) : scv P (.bin .quo t) [x, y] [.int .i64 i, .int .i64 j] = some (.s (.int .i64 (IntKind.i64.wrap (Int.tdiv i j)))) := by
 have : pureRun P (Sc.sem P (.bin .quo t) [x, y] [.int .i64 i, .int .i64 j]) = some (.int .i64 (IntKind.i64.wrap (Int.tdiv i j))) := by
  show pureRun P (Op.intDiv .quo .i64 i j) = _
  unfold Op.intDiv
  rw [if_neg h]; rfl
 unfold scv; rw [this]; rfl
theorem v_rem (h : j ≠ 0) : scv P (.bin .rem t) [x, y] [.int .i64 i, .int .i64 j] = some (.s (.int .i64 (Int.tmod i j))) := by
 have : pureRun P (Sc.sem P (.bin .rem t) [x, y] [.int .i64 i, .int .i64 j]) = some (.int .i64 (Int.tmod i j)) := by
  show pureRun P (Op.intDiv .rem .i64 i j) = _
  unfold Op.intDiv
  rw [if_neg h]; rfl
 unfold scv; rw [this]; rfl
end
abbrev Spec := List AV → AOut → Prop
def Con (P : Program) (J : World → Prop) (f : FuncId) (T : Spec) : Prop :=
 ∀ args out, T args out → ∀ S w vs, J w → Agr S w → All2 (Rep (g0 S)) args vs → Calls P f vs.toArray w (Post S w out)
def env : List (FuncId × Spec) → Env
 | [], _, _, _ => False
 | (f, T) :: l, g, args, out => if g = f then T args out else env l g args out
theorem ok_nil {P : Program} {J : World → Prop} : Ok P J (env []) := fun _ _ _ h => h.elim
theorem ok_cons {P : Program} {J : World → Prop} {f : FuncId} {T : Spec} {l : List (FuncId × Spec)} (h : Con P J f T) (k : Ok P J (env l)) : Ok P J (env ((f, T) :: l)) := fun g args out he => by
 simp only [env] at he
 split at he
 ·rename_i e; subst e; exact h args out he
 ·exact k g args out he
theorem con {P : Program} {E : Env} {J : World → Prop} (hE : Ok P J E) (hJ : ∀ w w', Below w.heap.size w w' → J w → J w') {f : FuncId} {fn : Func} {code : Code} {ac : ACode} {vs : List RV} {T : Spec} (hf : P.funcs[f]? = some fn) (hb : fn.body = some code)
  (hc : comp P fn.ntmps code = some ac) (hr : rvs P fn.results.toList = some vs) (h : ∀ args out, T args out → args.length ≤ fn.ntmps ∧ awp P E ac (fin P vs (· = out)) (start args)) : Con P J f T :=
 fun args out ho S w us hw hA ha => fn_sound hE hJ hf hb hc hr (h args out ho).1 (h args out ho).2 S w us hw hA ha
end Go.Proofs.YthdkjfhpbigdpaaDoor.Ev

namespace Go.Proofs.YthdkjfhpbigdpaaDoor.Ev
open Go Go.RowKit
set_option linter.unusedSimpArgs false
set_option linter.unusedVariables false
theorem env_hit {f : FuncId} {T : Spec} {l : List (FuncId × Spec)} {args : List AV} {out : AOut} : env ((f, T) :: l) f args out = T args out := if_pos rfl
theorem env_miss {f g : FuncId} {T : Spec} {l : List (FuncId × Spec)} {args : List AV} {out : AOut} (h : g ≠ f) : env ((f, T) :: l) g args out = env l g args out := if_neg h
theorem ex2 {α β : Type} {a : α} {b : β} {p : α → β → Prop} : (∃ x y, a = x ∧ b = y ∧ p x y) = p a b := propext ⟨fun ⟨_, _, h1, h2, h⟩ => by subst h1 h2; exact h, fun h => ⟨a, b, rfl, rfl, h⟩⟩
theorem ex3 {α β γ : Type} {a : α} {p : α → β → γ → Prop} : (∃ x y z, a = x ∧ p x y z) = ∃ y z, p a y z := propext ⟨fun ⟨_, y, z, h1, h⟩ => by subst h1; exact ⟨y, z, h⟩, fun ⟨y, z, h⟩ => ⟨a, y, z, rfl, h⟩⟩
theorem ex4 {α β γ : Type} {a : α} {b : β} {c : γ} {p : α → β → γ → Prop} : (∃ x y z, (a, b) = (x, y) ∧ c = z ∧ p x y z) = p a b c := propext ⟨fun ⟨_, _, _, h1, h2, h⟩ => by cases h1; subst h2; exact h, fun h => ⟨a, b, c, rfl, rfl, h⟩⟩
theorem tf : (true == false) = false := rfl
theorem ft : (false == true) = false := rfl
theorem go {p q : Prop} (h : q) (e : p = q := by
 simp (config := { decide := true }) only [a_skip, a_reg, a_seq, a_cond, a_block, a_exit, a_ret, f_ret, f_normal, f_pan, q_normal, q_exit, q_ret, q_pan, k_hit, k_miss, k_normal, k_ret, k_pan, r_nil, r_op, r_g1, r_g2, r_n1, r_n2, r_n3, stp, pv, start0, start1, start2, start3, start4, put_some, put_none, upd_bm, shut_bm, shut_no, tm_hit, tm_miss, bm_hit, bm_miss, ev_t, ev_I, ev_U8, ev_B, ev_S, ev_Nil, v_add, v_sub, v_mul, v_lss, v_leq, v_gtr, v_geq, v_eql, v_neq, b_leq, b_geq, b_eql, b_neq, s_eql, s_neq, u_not, u_neg, v_quo, v_rem,
  a, b, a0, b0, ag, bg, scs, sc, cs1, cut, rowOf, roOf, idxOf, cellsA, put1, fillA, elemsOf, strip, pcell, refs, refC, growOf, killT, here, outOf, getRs, getR, okc, AOut.on, env_hit, env_miss, GR.shut,
  List.map_cons, List.map_nil, List.flatMap_cons, List.flatMap_nil, List.append_nil, List.nil_append, List.cons_append, List.all_cons, List.all_nil, List.drop_zero, List.drop_succ_cons, List.take_succ_cons, List.take_zero, List.take_nil, List.drop_nil, List.getElem?_cons_zero, List.getElem?_cons_succ, Option.map_some, Option.map_none, Option.isSome_some, Bool.and_true, Bool.true_and, Bool.and_eq_true,
  Option.some.injEq, exists_eq_left', exists_eq_left, ex2, ex3, ex4, tf, ft, exists_eq_right, if_true, if_false, ite_true, ite_false, Bool.false_eq_true, eq_self_iff_true, AV.s.injEq, Value.bool.injEq, AOut.ret.injEq, List.length_cons, List.length_nil, Nat.zero_add, Nat.add_zero, Nat.reduceAdd, Nat.reduceEqDiff, Nat.reduceLeDiff, not_false_eq_true, ne_eq, beq_self_eq_true, Bool.true_eq_false, Bool.not_true, Bool.not_false, and_true, true_and, and_self, exists_prop, Nat.succ_ne_zero, Nat.reduceLT, Int.reduceNeg, reduceCtorEq, imp_self, decide_true, decide_false, decide_eq_true_eq, decide_eq_false_iff_not, List.mem_cons, List.not_mem_nil, or_false, false_imp_iff, true_imp_iff, forall_const, implies_true]
 rfl) : p := e ▸ h
end Go.Proofs.YthdkjfhpbigdpaaDoor.Ev

/- Plain Lean: trees, and what layer 2 tells of them. No program in sight, but for the printed type of trees. -/
namespace Go.Proofs.YthdkjfhpbigdpaaDoor.HTree
open Go.Proofs.YthdkjfhpbigdpaaDoor.Q
abbrev T := S24
mutual
def height : T → Nat
 | ⟨_, _, _, _, l⟩ => heights l + 1
def heights : List T → Nat
 | [] => 0
 | x :: r => max (height x) (heights r)
end
mutual
def size : T → Nat
 | ⟨_, _, _, _, l⟩ => sizes l + 1
def sizes : List T → Nat
 | [] => 0
 | x :: r => size x + sizes r
end
mutual
def wt : T → Nat
 | ⟨_, s, _, _, l⟩ => s.size + 1 + wts l
def wts : List T → Nat
 | [] => 0
 | x :: r => wt x + wts r
end
mutual
def Ok : T → Prop
 | ⟨k, _, n, a, l⟩ => (Go.Lit.int .i64 k).wf = true ∧ (Go.Lit.int .i64 n).wf = true ∧ (Go.Lit.int .i64 a).wf = true ∧ Oks l
def Oks : List T → Prop
 | [] => True
 | x :: r => Ok x ∧ Oks r
end
def token (s : ByteArray) (k : Nat) : Bool := match HLex.lex s.data.toList with
 | .ok [t] => decide (t.kind = k) && decide (t.text = s.data.toList)
 | _ => false
def oper (s : ByteArray) : Bool := [[43], [45], [42], [47], [60], [61, 61]].contains s.data.toList
def what (k : Int) : Int := if k = 1 ∨ k = 2 ∨ k = 4 ∨ k = 5 then 1 else if k = 6 ∨ k = 8 then 2 else if k = 10 then 3 else 0
def named (s : ByteArray) (w : Int) : Bool := if w = 1 then token s 1 else if w = 2 then token s 2 else if w = 3 then oper s else decide (s.data.toList = [])
def least (k : Int) : Int := if k = 2 ∨ k = 8 then 1 else if k = 3 ∨ k = 4 ∨ k = 5 ∨ k = 7 ∨ k = 10 then 2 else 0
def most (k : Int) : Int := if k = 2 then 1 else if k = 3 ∨ k = 4 ∨ k = 5 ∨ k = 10 then 2 else if k = 6 then 8 else if k = 7 ∨ k = 8 then 9 else 0
def number (k n : Int) (len : Nat) : Bool := if k = 9 then decide (0 ≤ n) && decide (n ≤ 999999999999999999) else if k = 8 then decide (n = (len : Int) - 1) else decide (n = 0)
mutual
def may : T → Bool
 | ⟨k, s, n, a, l⟩ => decide (1 ≤ k) && decide (k ≤ 10) && decide (least k ≤ (l.length : Int)) && decide ((l.length : Int) ≤ most k) && named s (what k) && number k n l.length && decide (0 ≤ a) && parts k n l 0
def parts : Int → Int → List T → Int → Bool
 | _, _, [], _ => true
 | k, n, ⟨k', s', n', a', l'⟩ :: r, i => (if k = 7 ∧ 0 < i then decide (k' = 8) && may ⟨k', s', n', a', l'⟩ else if k = 8 ∧ i < n ∧ k' ≠ 1 then false else decide (k' ≠ 8) && may ⟨k', s', n', a', l'⟩) && parts k n r (i + 1)
end
def part (k n : Int) (x : T) (i : Int) : Bool := if k = 7 ∧ 0 < i then decide (x.f0 = 8) && may x else if k = 8 ∧ i < n ∧ x.f0 ≠ 1 then false else decide (x.f0 ≠ 8) && may x
def whole (x : T) : Bool := decide (x.f0 ≠ 8) && may x
mutual
def same : T → T → Bool
 | ⟨k, s, n, _, l⟩, ⟨k', s', n', _, l'⟩ => decide (k = k') && decide (s.data.toList = s'.data.toList) && decide (n = n') && sames l l'
def sames : List T → List T → Bool
 | [], [] => true
 | x :: r, y :: r' => same x y && sames r r'
 | _, _ => false
end
mutual
def one : T → T → Bool
 | ⟨k, s, n, a, l⟩, ⟨k', s', n', a', l'⟩ => decide (k = k') && decide (s.data.toList = s'.data.toList) && decide (n = n') && decide (a = a') && ones l l'
def ones : List T → List T → Bool
 | [], [] => true
 | x :: r, y :: r' => one x y && ones r r'
 | _, _ => false
end
mutual
def bare : T → T
 | ⟨k, s, n, _, l⟩ => ⟨k, s, n, 0, bares l⟩
def bares : List T → List T
 | [] => []
 | x :: r => bare x :: bares r
end
theorem height_get {l : List T} {x : T} (h : x ∈ l) : height x ≤ heights l := by
 induction l with
 | nil => cases h
 | cons y r ih =>
  simp only [heights]
  rcases List.mem_cons.1 h with rfl | h
  ·omega
  ·have := ih h; omega
theorem wt_get {l : List T} {x : T} (h : x ∈ l) : wt x ≤ wts l := by
 induction l with
 | nil => cases h
 | cons y r ih =>
  simp only [wts]
  rcases List.mem_cons.1 h with rfl | h
  ·omega
  ·have := ih h; omega
theorem wt_pos : ∀ x : T, 1 ≤ wt x
 | ⟨_, _, _, _, _⟩ => by simp only [wt]; omega
theorem len_wts : ∀ l : List T, l.length ≤ wts l
 | [] => Nat.le_refl _
 | x :: r => by have := len_wts r; have := wt_pos x; simp only [wts, List.length_cons]; omega
theorem parts_cons (k n : Int) (x : T) (r : List T) (i : Int) : parts k n (x :: r) i = (part k n x i && parts k n r (i + 1)) := by cases x; rfl
end Go.Proofs.YthdkjfhpbigdpaaDoor.HTree

namespace Go.Proofs.YthdkjfhpbigdpaaDoor.Ev
open Go Go.RowKit Go.Proofs.YthdkjfhpbigdpaaDoor.Q Go.Proofs.YthdkjfhpbigdpaaDoorW.PrintWords Go.Proofs.YthdkjfhpbigdpaaDoorW.PrintLast Go.Proofs.YthdkjfhpbigdpaaDoorW.PrintMore
open HTree (wt wts)
set_option linter.unusedSimpArgs false
set_option linter.unusedVariables false
abbrev Tr := HTree.T
theorem get_lt {α : Type} {l : List α} {i : Nat} {y : α} (h : l[i]? = some y) : i < l.length := (List.getElem?_eq_some_iff.1 h).1
theorem tr_get {w : World} {A : Option Addr} {l : List Tr} {i : Nat} {y : Tr} (h : Kd.C k24 w A l.length l) (hy : l[i]? = some y) : ∃ ad A4 c4, A = some ad ∧ w.cell? (ad.add (i * 5)) = some (.int .i64 y.f0) ∧ w.cell? ⟨(ad.add (i * 5)).block, (ad.add (i * 5)).off + 1, none⟩ = some (.string y.f1) ∧ w.cell? ⟨(ad.add (i * 5)).block, (ad.add (i * 5)).off + 2, none⟩ = some (.int .i64 y.f2) ∧ w.cell? ⟨(ad.add (i * 5)).block, (ad.add (i * 5)).off + 3, none⟩ = some (.int .i64 y.f3) ∧ w.cell? ⟨(ad.add (i * 5)).block, (ad.add (i * 5)).off + 4, none⟩ = some (.slice A4 y.f4.length c4) ∧ y.f4.length ≤ c4 ∧ Kd.C k24 w A4 y.f4.length y.f4 := by
 have hi := get_lt hy
 have hr : rd_T24 l (i : Int) = y := by unfold rd_T24; rw [Int.toNat_natCast, List.getD_eq_getElem?_getD, hy]; rfl
 obtain ⟨ad, A4, c4, hA, x0, x1, x2, x3, x4, hl, hc⟩ := at_T24 h (i : Int) (by omega) (by omega)
 rw [hr] at x0 x1 x2 x3 x4 hl hc
 rw [Int.toNat_natCast] at x0 x1 x2 x3 x4
 exact ⟨ad, A4, c4, hA, x0, x1, x2, x3, x4, hl, hc⟩
theorem add0 (ad : Addr) : ad.add 0 = ad := by cases ad with | mk b o t => cases t <;> simp [Addr.add]
mutual
def encT : Tr → List AV
 | ⟨k, s, n, a, l⟩ => [.s (.int .i64 k), .s (.string s), .s (.int .i64 n), .s (.int .i64 a), .row (encTs l)]
def encTs : List Tr → List (List AV)
 | [] => []
 | x :: l => encT x :: encTs l
end
theorem encT_is (x : Tr) : encT x = [.s (.int .i64 x.f0), .s (.string x.f1), .s (.int .i64 x.f2), .s (.int .i64 x.f3), .row (encTs x.f4)] := by cases x; rfl
theorem encTs_map : ∀ l : List Tr, encTs l = l.map encT
 | [] => rfl
 | x :: l => by rw [encTs, encTs_map l]; rfl
theorem encTs_len (l : List Tr) : (encTs l).length = l.length := by rw [encTs_map]; simp
theorem encT_len (x : Tr) : (encT x).length = 5 := by rw [encT_is]; rfl
theorem wt_f4 (x : Tr) : wts x.f4 < wt x := by cases x; simp only [wt]; omega
theorem pur_s {S : Snap} {x v : Value} (h : Pur S (.s x) v) : v = x := by cases h; rfl
theorem fwd {S : Snap} {w : World} (hA : Agr S w) : ∀ n, n ≤ 9223372036854775807 → ∀ l : List Tr, wts l ≤ n → ∀ v, Pur S (.row (encTs l)) v → ∃ A c, v = .slice A l.length c ∧ l.length ≤ c ∧ Kd.C k24 w A l.length l := by
 intro n
 induction n with
 | zero =>
  intro _ l hl v hv
  have : l = [] := by
   cases l with
   | nil => rfl
   | cons x l => have := HTree.wt_pos x; simp only [wts] at hl; omega
  subst this
  cases hv with
  | row sz h r e m => simp only [encTs, List.length_nil] at e; subst e; exact ⟨_, _, rfl, by simp, rfl, by decide, fun h => absurd h (by simp)⟩
  | nil => exact ⟨_, _, rfl, by simp, rfl, by decide, fun h => absurd h (by simp)⟩
 | succ n ih =>
  intro hn l hl v hv
  have hlen := HTree.len_wts l
  cases hv' : l with
  | nil =>
   subst hv'
   cases hv with
   | row sz h r e m => simp only [encTs, List.length_nil] at e; subst e; exact ⟨_, _, rfl, by simp, rfl, by decide, fun h => absurd h (by simp)⟩
   | nil => exact ⟨_, _, rfl, by simp, rfl, by decide, fun h => absurd h (by simp)⟩
  | cons x0 l0 =>
   rw [← hv']
   generalize hxs : encTs l = xs at hv
   cases hv with
   | nil => rw [hv'] at hxs; simp [encTs] at hxs
   | row sz h r e m =>
    rename_i b o len cap
    subst hxs
    rw [encTs_len] at e; subst e
    refine ⟨_, _, rfl, m, rfl, by omega, fun _ => ⟨_, rfl, fun j p hj => ?_⟩⟩
    have hget : (encTs l)[j]? = some (encT p) := by rw [encTs_map, List.getElem?_map, hj]; rfl
    have hcs := Rows.get (sz := 5) (fun c hc => by rw [encTs_map] at hc; obtain ⟨y, _, rfl⟩ := List.mem_map.1 hc; exact encT_len y) r hget
    have hp : p ∈ l := List.mem_of_getElem? hj
    have h1 := HTree.wt_get hp
    have h2 := wt_f4 p
    obtain ⟨vs, v1, v2, v3⟩ := hcs.vals
    rw [encT_is] at v1 v3
    obtain ⟨u0, e0, p0⟩ := v3 0 _ rfl
    obtain ⟨u1, e1, p1⟩ := v3 1 _ rfl
    obtain ⟨u2, e2, p2⟩ := v3 2 _ rfl
    obtain ⟨u3, e3, p3⟩ := v3 3 _ rfl
    obtain ⟨u4, e4, p4⟩ := v3 4 _ rfl
    obtain ⟨A4, c4, rfl, hl4, hC4⟩ := ih (by omega) p.f4 (by omega) u4 p4
    have q0 := pur_s p0; have q1 := pur_s p1; have q2 := pur_s p2; have q3 := pur_s p3
    subst q0 q1 q2 q3
    refine ⟨_, rfl, k24_mk w p hl4 hC4, fun i u hi => ?_⟩
    rw [Addr.add_lit]
    have hv2 : vs[i]? = some u := match i, hi with
     | 0, hi => e0.trans hi
     | 1, hi => e1.trans hi
     | 2, hi => e2.trans hi
     | 3, hi => e3.trans hi
     | 4, hi => e4.trans hi
    have := v2 i u hv2
    rw [Nat.add_assoc] at this
    exact hA.1 _ _ _ this
theorem rows_of {S : Snap} {sz b : Nat} : ∀ (xs : List (List AV)) (o : Nat), (∀ c ∈ xs, c.length = sz) → (∀ i c, xs[i]? = some c → Cells S b (o + i * sz) c) → Rows S b o xs
 | [], _, _, _ => .nil
 | c :: xs, o, h, k => by
  have h0 := h c (List.mem_cons_self ..)
  refine .cons (by simpa using k 0 c rfl) (rows_of xs _ (fun c hc => h c (List.mem_cons_of_mem _ hc)) fun i d hd => ?_)
  have := k (i + 1) d (by simpa using hd)
  rwa [Nat.add_mul, Nat.one_mul, show o + (i * sz + sz) = o + c.length + i * sz by omega] at this
def SW (w : World) : Snap := fun b o => w.cell? ⟨b, o, none⟩
theorem SW_agr (w : World) : Agr (SW w) w := ⟨fun _ _ _ h => h, fun _ _ _ _ _ _ h => h⟩
theorem spot_none {w : World} {a : Addr} {v : Value} (h : w.cell? a = some v) : a.spot = none := by
 unfold World.cell? at h
 split at h
 ·split at h
  ·cases h
  ·rename_i h0; cases ha : a.spot with
   | none => rfl
   | some _ => rw [ha] at h0; simp at h0
 ·cases h
theorem add_eq {a : Addr} (h : a.spot = none) (n : Nat) : a.add n = ⟨a.block, a.off + n, none⟩ := by
 cases a with
 | mk b o s => simp only at h; subst h; rw [Addr.add_lit]
theorem bwd {w : World} : ∀ n, ∀ l : List Tr, wts l ≤ n → ∀ A c, l.length ≤ c → Kd.C k24 w A l.length l → Pur (SW w) (.row (encTs l)) (.slice A l.length c) := by
 intro n
 induction n with
 | zero =>
  intro l hl A c hc h
  have : l = [] := by
   cases l with
   | nil => rfl
   | cons x l => have := HTree.wt_pos x; simp only [wts] at hl; omega
  subst this
  exact .nil
 | succ n ih =>
  intro l hl A c hc h
  cases hv : l with
  | nil => exact .nil
  | cons x0 l0 =>
   rw [← hv]
   have hp0 : l[0]? = some x0 := by rw [hv]; rfl
   obtain ⟨ad, _, _, rfl, y0, -⟩ := tr_get h hp0
   have hsp : ad.spot = none := by
    have := spot_none y0
    rw [Nat.zero_mul, add0] at this; exact this
   have had : ad = ⟨ad.block, ad.off, none⟩ := by cases ad; simp only at hsp; subst hsp; rfl
   rw [had]
   refine .row 5 (fun c hc => by rw [encTs_map] at hc; obtain ⟨y, _, rfl⟩ := List.mem_map.1 hc; exact encT_len y) (rows_of _ _ (fun c hc => by rw [encTs_map] at hc; obtain ⟨y, _, rfl⟩ := List.mem_map.1 hc; exact encT_len y) fun i d hd => ?_) (encTs_len l) hc
   rw [encTs_map, List.getElem?_map, Option.map_eq_some_iff] at hd
   obtain ⟨p, hp, rfl⟩ := hd
   obtain ⟨ad', A4, c4, e, z0, z1, z2, z3, z4, hl4, hC4⟩ := tr_get h hp
   cases e
   rw [add_eq hsp] at z0 z1 z2 z3 z4
   have hm := HTree.wt_get (List.mem_of_getElem? hp)
   have h2 := wt_f4 p
   rw [encT_is]
   exact .cons z0 (.s rfl) (.cons z1 (.s rfl) (.cons z2 (.s rfl) (.cons z3 (.s rfl) (.cons z4 (ih p.f4 (by omega) A4 c4 hl4 hC4) .nil))))
theorem argT {S : Snap} {w : World} (hA : Agr S w) {x : Tr} (hx : wt x ≤ 9223372036854775807) {v : Value} (h : Rep (g0 S) (.agg (encT x)) v) :
  ∃ A c, v = .agg #[.int .i64 x.f0, .string x.f1, .int .i64 x.f2, .int .i64 x.f3, .slice A x.f4.length c] ∧ x.f4.length ≤ c ∧ Kd.C k24 w A x.f4.length x.f4 := by
 have hf := wt_f4 x
 rw [encT_is] at h
 cases h with
 | com h => cases h with
  | cel h => cases h with | pur p => cases p
  | agg h =>
   cases h with | cons c0 h =>
   cases h with | cons c1 h =>
   cases h with | cons c2 h =>
   cases h with | cons c3 h =>
   cases h with | cons c4 h =>
   cases h
   cases c0 with | pur p0 =>
   cases c1 with | pur p1 =>
   cases c2 with | pur p2 =>
   cases c3 with | pur p3 =>
   cases c4 with | pur p4 =>
   obtain ⟨A, c, rfl, hl, hC⟩ := fwd hA _ (Nat.le_refl _) x.f4 (by omega) _ p4
   cases p0; cases p1; cases p2; cases p3
   exact ⟨A, c, rfl, hl, hC⟩
theorem repT {w : World} {x : Tr} {A : Option Addr} {c : Nat} (hl : x.f4.length ≤ c) (hC : Kd.C k24 w A x.f4.length x.f4) :
  Rep (g0 (SW w)) (.agg (encT x)) (.agg #[.int .i64 x.f0, .string x.f1, .int .i64 x.f2, .int .i64 x.f3, .slice A x.f4.length c]) := by
 rw [encT_is]
 exact .com (.agg (.cons (.pur (.s rfl)) (.cons (.pur (.s rfl)) (.cons (.pur (.s rfl)) (.cons (.pur (.s rfl)) (.cons (.pur (bwd _ x.f4 (Nat.le_refl _) A c hl hC)) .nil))))))
theorem post_s {S : Snap} {w : World} (hA : Agr S w) {v : Value} (h1 : v.oneCell' = true) {e : Ending} {w' : World} (h : e = .returned v ∧ Below w.heap.size w w') : Post S w (.ret (.s v)) e w' := by
 obtain ⟨rfl, hb⟩ := h
 exact ⟨S, SLe.refl _, fun _ _ _ => rfl, hA.below hb, hb, rep_s h1⟩
theorem post_ret {S : Snap} {w : World} {v : Value} {e : Ending} {w' : World} (h : Post S w (.ret (.s v)) e w') : e = .returned v ∧ Below w.heap.size w w' := by
 cases e with
 | returned x =>
  obtain ⟨S', -, -, -, hb, r⟩ := h
  have : x = v := sc_rep r rfl
  subst this
  exact ⟨rfl, hb⟩
 | panicked ch => exact h.elim
 | _ => exact h.elim
end Go.Proofs.YthdkjfhpbigdpaaDoor.Ev

namespace Go.Proofs.YthdkjfhpbigdpaaDoor.Q
open Go.RowKit Go.Proofs.YthdkjfhpbigdpaaDoorW.PrintWords Go.Proofs.YthdkjfhpbigdpaaDoorW.PrintLast Go.Proofs.YthdkjfhpbigdpaaDoorW.PrintMore
attribute [local go_sem] max2_int min2_int max_two min_two max_three min_three max_four min_four
set_option linter.unusedVariables false
set_option linter.unusedSimpArgs false

mutual
def tree_Depth.l0 : Nat → Int → List (S24) → Int → Int → Option (Int)
 | 0, _, _, _, _ => none
 | k + 1, x3, x7, x8, x9 => if x9 < x8 then (if 0 ≤ x9 then (if x9 < (x7.length : Int) then ((tree_Depth.f k ((rd_T24 x7 x9).f0) ((rd_T24 x7 x9).f1) ((rd_T24 x7 x9).f2) ((rd_T24 x7 x9).f3) ((rd_T24 x7 x9).f4)).bind fun t118 => (tree_Depth.l0 k (mx x3 t118) x7 x8 (wrap64 (x9 + 1)))) else (none)) else (none)) else (some (wrap64 (x3 + 1)))
def tree_Depth.f : Nat → Int → ByteArray → Int → Int → List (S24) → Option (Int)
 | 0, _, _, _, _, _ => none
 | k + 1, a0_0, a0_1, a0_2, a0_3, l0_4 => tree_Depth.l0 k 0 l0_4 (l0_4.length : Int) 0
end
theorem tree_Depth.mono_l : ∀ k, (∀ y0 y1 y2 y3 y4, LeO (tree_Depth.f k y0 y1 y2 y3 y4) (tree_Depth.f (k + 1) y0 y1 y2 y3 y4)) ∧ (∀ y0 y1 y2 y3, LeO (tree_Depth.l0 k y0 y1 y2 y3) (tree_Depth.l0 (k + 1) y0 y1 y2 y3))
 | 0 => ⟨fun _ _ _ _ _ r h => by simp [tree_Depth.f] at h, fun _ _ _ _ r h => by simp [tree_Depth.l0] at h⟩
 | k + 1 => by
  obtain ⟨ih0, ih1⟩ := tree_Depth.mono_l k
  refine ⟨?_, ?_⟩
  ·intro y0 y1 y2 y3 y4
   unfold tree_Depth.f
   repeat' first
  |(with_reducible exact ih0 _ _ _ _ _)
  |(with_reducible exact ih1 _ _ _ _)
  |(with_reducible exact LeO.refl _)
  |(with_reducible exact LeO.none _)
  |(with_reducible refine LeO.ite ?_ ?_)
  |(with_reducible refine LeO.bind ?_ (fun _ => ?_))
  |exact ih0 _ _ _ _ _
  |exact ih1 _ _ _ _
  |exact LeO.none _
  |refine LeO.ite ?_ ?_
  |refine LeO.bind ?_ (fun _ => ?_)
  ·intro y0 y1 y2 y3
   unfold tree_Depth.l0
   repeat' first
  |(with_reducible exact ih0 _ _ _ _ _)
  |(with_reducible exact ih1 _ _ _ _)
  |(with_reducible exact LeO.refl _)
  |(with_reducible exact LeO.none _)
  |(with_reducible refine LeO.ite ?_ ?_)
  |(with_reducible refine LeO.bind ?_ (fun _ => ?_))
  |exact ih0 _ _ _ _ _
  |exact ih1 _ _ _ _
  |exact LeO.none _
  |refine LeO.ite ?_ ?_
  |refine LeO.bind ?_ (fun _ => ?_)
theorem tree_Depth.mono : ∀ a0 a1 a2 a3 a4 k, LeO (tree_Depth.f k a0 a1 a2 a3 a4) (tree_Depth.f (k + 1) a0 a1 a2 a3 a4) := by
 intro a0 a1 a2 a3 a4 k
 obtain ⟨ih0, ih1⟩ := tree_Depth.mono_l k
 exact ih0 a0 a1 a2 a3 a4
set_option maxHeartbeats 8000000 in
set_option maxRecDepth 100000 in
theorem tree_Depth.calls (k : Nat) : ∀ (a0_0 : Int) (a0_1 : ByteArray) (a0_2 : Int) (a0_3 : Int) (A0_4 : Option Addr) (c0_4 : Nat) (l0_4 : List (S24)) (r : Int) (w : World) (hr0_4 : Kd.C k24 w A0_4 l0_4.length l0_4) (hc0_4 : l0_4.length ≤ c0_4) (h : tree_Depth.f k a0_0 a0_1 a0_2 a0_3 l0_4 = some r),
  Calls Tryd.prog 13 #[.agg #[.int .i64 a0_0, .string a0_1, .int .i64 a0_2, .int .i64 a0_3, .slice A0_4 l0_4.length c0_4]] w fun e w' => e = .returned (.int .i64 r) ∧ Below w.heap.size w w' := by
 induction k using Nat.strongRecOn with
 | _ k ih =>
 intro a0_0 a0_1 a0_2 a0_3 A0_4 c0_4 l0_4 r w hr0_4 hc0_4 h
 cases k with
 | zero => exact absurd h (by simp [tree_Depth.f])
 | succ k =>
 simp only [tree_Depth.f] at h
 have hu24 := Tryd.underlying24
 have HR0_4 := Aside0.mk hr0_4
 have HC0_4 := Aside0.mk hc0_4
 clear hr0_4 hc0_4
 have HB := Aside0.mk (Below.refl w.heap.size w)
 have H : (tree_Depth.l0 k 0 l0_4 (l0_4.length : Int) 0) = some r := h
 clear h
 have H' := Aside0.mk H
 clear H
 go_enter Tryd.func13, Tryd.ntmps13
 go_wp2_with (first|((with_reducible refine gate_dst (N := 1) rfl ?_); refine box_event ?hg (N := 1) ?hd (cs := #[.int .i64 a0_0, .string a0_1, .int .i64 a0_2, .int .i64 a0_3, .slice A0_4 l0_4.length c0_4]) (t := 24) ?hr ?_; (case hd => rfl); (case hg => rfl); (case hr => first|(go_simp; done)|(go_simp; rfl)); intro gb115 hg w2 hbox hb; have n0_ := Aside0.mk (below_step (by repeat (first|(with_reducible first|exact HB.out|apply below_alloc|apply pw_below_drewN|apply below_drew1)|exact HB.out)) hb); have n1_ := Aside0.mk (hbox); have n2_ := Aside0.mk ((by rw [hg]; exact (below_size (by repeat (first|(with_reducible first|exact HB.out|apply below_alloc|apply pw_below_drewN|apply below_drew1)|exact HB.out))) : w.heap.size ≤ gb115)); have n3_ := Aside0.mk ((by rw [hg]; exact (below_size (by repeat (first|(with_reducible first|exact HB.out|apply below_alloc|apply pw_below_drewN|apply below_drew1)|exact HB.out))) : w.heap.size ≤ gb115)); clear HB; have HB := n0_; have BK115 := n1_; have GW115 := n2_; have GE115 := n3_; clear n0_ n1_ n2_ n3_; clear hb hbox hg; have hcz3_0 : w2.cell? ⟨gb115, 0, none⟩ = some (.int .i64 a0_0) := (blk_cell BK115.out 0).trans rfl; have hcz3_1 : w2.cell? ⟨gb115, 1, none⟩ = some (.string a0_1) := (blk_cell BK115.out 1).trans rfl; have hcz3_2 : w2.cell? ⟨gb115, 2, none⟩ = some (.int .i64 a0_2) := (blk_cell BK115.out 2).trans rfl; have hcz3_3 : w2.cell? ⟨gb115, 3, none⟩ = some (.int .i64 a0_3) := (blk_cell BK115.out 3).trans rfl; have hcz3_4 : w2.cell? ⟨gb115, 4, none⟩ = some (.slice A0_4 l0_4.length c0_4) := (blk_cell BK115.out 4).trans rfl; have hfz3_0 := blk_frozen BK115.out 0; have hfz3_1 := blk_frozen BK115.out 1; have hfz3_2 := blk_frozen BK115.out 2; have hfz3_3 := blk_frozen BK115.out 3; have hfz3_4 := blk_frozen BK115.out 4))
 go_loopg [3, 9] k (fun kq v3 v9 w' => ∃ (x3_1 : Int) (x9_1 : Int), v3 = .int .i64 x3_1 ∧ v9 = .int .i64 x9_1 ∧ Aside0 (tree_Depth.l0 kq x3_1 l0_4 (l0_4.length : Int) x9_1 = some r) ∧ Aside0 (kq ≤ k) ∧ Aside0 (w'.heap[gb115]? = some (.cells #[.int .i64 a0_0, .string a0_1, .int .i64 a0_2, .int .i64 a0_3, (.slice A0_4 l0_4.length c0_4)] 24 (0, 0))) ∧ Aside0 (Below w.heap.size w w'))
 case atStart => exact ⟨(0), (0), (by first|rfl|(simp; done)|(simp [*]; done)), (by first|rfl|(simp; done)|(simp [*]; done)), H', ⟨Nat.le_refl _⟩, ⟨by (with_reducible repeat (first|refine blk_drewN ?_ _|refine blk_drew ?_|refine blk_alloc ?_ _)); exact BK115.out⟩, ⟨by repeat (first|(with_reducible first|exact HB.out|apply below_alloc|apply pw_below_drewN|apply below_drew1|refine below_set ?_ GE115.out)|exact HB.out)⟩⟩
 case round =>
  clear H'
  try clear c1
  try clear p2
  try clear hcz3_0
  try clear hcz3_1
  try clear hcz3_2
  try clear hcz3_3
  try clear hcz3_4
  try clear hfz3_0
  try clear hfz3_1
  try clear hfz3_2
  try clear hfz3_3
  try clear hfz3_4
  obtain ⟨x3_1, x9_1, rfl, rfl, HA, HK1, BK115, HB⟩ := hrel
  cases gk with
  | zero => exact absurd HA.out (by simp [tree_Depth.l0])
  | succ k1 =>
   have H := HA.out
   clear HA
   simp only [tree_Depth.l0] at H
   by_cases c4 : x9_1 < (l0_4.length : Int)
   ·rw [if_pos c4] at H
    have c4b0 : decide (x9_1 < (l0_4.length : Int)) = true := decide_eq_true c4
    clear c4
    by_cases c5 : 0 ≤ x9_1
    ·rw [if_pos c5] at H
     have c5b0 : decide (0 ≤ x9_1) = true := decide_eq_true c5
     clear c5
     by_cases c6 : x9_1 < (l0_4.length : Int)
     ·rw [if_pos c6] at H
      have c6b0 : decide (x9_1 < (l0_4.length : Int)) = true := decide_eq_true c6
      clear c6
      replace H := Option.bind_eq_some_iff.mp H
      obtain ⟨t118, A70, H⟩ := H
      replace H : (tree_Depth.l0 k1 (mx x3_1 t118) l0_4 (l0_4.length : Int) (wrap64 (x9_1 + 1))) = some r := H
      have A7 := Aside0.mk A70
      clear A70
      obtain ⟨ji8, hji8⟩ : ∃ j_ : Int, (mx x3_1 t118) = j_ := ⟨_, rfl⟩
      replace H : (tree_Depth.l0 k1 ji8 l0_4 (l0_4.length : Int) (wrap64 (x9_1 + 1))) = some r := by first | (rw [hji8] at H; exact H)|(simp only [hji8] at H ⊢; exact H)
      (try rw [hji8] at A7)
      have hji8_ : (if x3_1 < t118 then t118 else x3_1) = ji8 := hji8
      have H' := Aside0.mk H
      clear H
      have p116 : 0 ≤ (x9_1 : Int) := of_decide_eq_true (by first|(with_reducible assumption) | assumption)
      have q116 : x9_1 < (l0_4.length : Int) := of_decide_eq_true (by first|(with_reducible assumption) | assumption)
      obtain ⟨ad116, A116_4, c116_4, e116, hx116_0, hx116_1, hx116_2, hx116_3, hx116_4, hl116_4, hi116_4⟩ := at_T24 HR0_4.out x9_1 p116 q116
      cases e116
      replace hx116_0 := (HB.out.cell (World.block_lt_of_cell? w _ hx116_0)).trans hx116_0
      replace hx116_1 := (HB.out.cell (World.block_lt_of_cell? w _ hx116_1)).trans hx116_1
      replace hx116_2 := (HB.out.cell (World.block_lt_of_cell? w _ hx116_2)).trans hx116_2
      replace hx116_3 := (HB.out.cell (World.block_lt_of_cell? w _ hx116_3)).trans hx116_3
      replace hx116_4 := (HB.out.cell (World.block_lt_of_cell? w _ hx116_4)).trans hx116_4
      have HR116_4 := Aside0.mk hi116_4
      have HC116_4 := Aside0.mk hl116_4
      clear hi116_4 hl116_4
      replace p116 := eq_true p116
      replace q116 := eq_true q116
      go_wp2_with (first|((with_reducible refine gate_dst (N := 5) rfl ?_); refine box_event ?hg (N := 5) ?hd (cs := #[.int .i64 0, .string (⟨#[]⟩ : ByteArray), .int .i64 0, .int .i64 0, .slice none 0 0]) (t := 24) ?hr ?_; (case hd => rfl); (case hg => rfl); (case hr => first|(go_simp; done)|(go_simp; rfl)); intro gb117 hg w9 hbox hb; have n0_ := Aside0.mk (blk_below (g := gb115) (o := .cells #[.int .i64 a0_0, .string a0_1, .int .i64 a0_2, .int .i64 a0_3, .slice (some ad116) l0_4.length c0_4] 24 (0, 0)) (by (with_reducible repeat (first|refine blk_drewN ?_ _|refine blk_drew ?_|refine blk_alloc ?_ _)); exact BK115.out) hb); have n1_ := Aside0.mk (below_step (by repeat (first|(with_reducible first|exact HB.out|apply below_alloc|apply pw_below_drewN|apply below_drew1|refine below_set ?_ GE115.out)|exact HB.out)) hb); have n2_ := Aside0.mk (hbox); have n3_ := Aside0.mk ((by rw [hg]; exact (below_size (by repeat (first|(with_reducible first|exact HB.out|apply below_alloc|apply pw_below_drewN|apply below_drew1|refine below_set ?_ GE115.out)|exact HB.out))) : w.heap.size ≤ gb117)); have n4_ := Aside0.mk ((by rw [hg]; exact (below_size (by repeat (first|(with_reducible first|exact HB.out|apply below_alloc|apply pw_below_drewN|apply below_drew1|refine below_set ?_ GE115.out)|exact HB.out))) : w.heap.size ≤ gb117)); have n5_ := Aside0.mk ((by rw [hg]; exact Nat.ne_of_lt (blk_lt (g := gb115) (o := .cells #[.int .i64 a0_0, .string a0_1, .int .i64 a0_2, .int .i64 a0_3, .slice (some ad116) l0_4.length c0_4] 24 (0, 0)) (by (with_reducible repeat (first|refine blk_drewN ?_ _|refine blk_drew ?_|refine blk_alloc ?_ _)); exact BK115.out)) : gb115 ≠ gb117)); have n6_ := Aside0.mk ((by rw [hg]; exact Nat.ne_of_gt (blk_lt (g := gb115) (o := .cells #[.int .i64 a0_0, .string a0_1, .int .i64 a0_2, .int .i64 a0_3, .slice (some ad116) l0_4.length c0_4] 24 (0, 0)) (by (with_reducible repeat (first|refine blk_drewN ?_ _|refine blk_drew ?_|refine blk_alloc ?_ _)); exact BK115.out)) : gb117 ≠ gb115)); clear BK115; clear HB; have BK115 := n0_; have HB := n1_; have BK117 := n2_; have GW117 := n3_; have GE117 := n4_; have NB115_117 := n5_; have NB117_115 := n6_; clear n0_ n1_ n2_ n3_ n4_ n5_ n6_; clear hb hbox hg; have hnb10 := NB117_115.out; have hnc10 := NB115_117.out; have hcz11_0 : w9.cell? ⟨gb117, 0, none⟩ = some (.int .i64 0) := (blk_cell BK117.out 0).trans rfl; have hcz11_1 : w9.cell? ⟨gb117, 1, none⟩ = some (.string (⟨#[]⟩ : ByteArray)) := (blk_cell BK117.out 1).trans rfl; have hcz11_2 : w9.cell? ⟨gb117, 2, none⟩ = some (.int .i64 0) := (blk_cell BK117.out 2).trans rfl; have hcz11_3 : w9.cell? ⟨gb117, 3, none⟩ = some (.int .i64 0) := (blk_cell BK117.out 3).trans rfl; have hcz11_4 : w9.cell? ⟨gb117, 4, none⟩ = some (.slice none 0 0) := (blk_cell BK117.out 4).trans rfl; have hfz11_0 := blk_frozen BK117.out 0; have hfz11_1 := blk_frozen BK117.out 1; have hfz11_2 := blk_frozen BK117.out 2; have hfz11_3 := blk_frozen BK117.out 3; have hfz11_4 := blk_frozen BK117.out 4) | ((with_reducible refine gate_callee (f := 13) rfl ?_); refine goesL_ (some 15) rfl rfl Tryd.func13 (by kernel_rfl) rfl #[.agg #[.int .i64 ((rd_T24 l0_4 x9_1).f0), .string ((rd_T24 l0_4 x9_1).f1), .int .i64 ((rd_T24 l0_4 x9_1).f2), .int .i64 ((rd_T24 l0_4 x9_1).f3), .slice A116_4 ((rd_T24 l0_4 x9_1).f4).length c116_4]] rfl (by (try simp only [List.map_toArray, List.map_cons, List.map_nil]); first|done|rfl|(simp only [List.length_drop, List.length_take]; rfl)) ?_; (with_reducible refine (ih k1 (by have := HK1.out; omega) ((rd_T24 l0_4 x9_1).f0) ((rd_T24 l0_4 x9_1).f1) ((rd_T24 l0_4 x9_1).f2) ((rd_T24 l0_4 x9_1).f3) _ _ ((rd_T24 l0_4 x9_1).f4) t118 _ ?side1 ?side2 A7.out).mono ?_); (case side1 => exact Kd.C_below HR116_4.out (by repeat (first|(with_reducible first|exact HB.out|apply below_alloc|apply pw_below_drewN|apply below_drew1|refine below_set ?_ GE115.out|refine below_set ?_ GE117.out)|exact HB.out))); (case side2 => exact HC116_4.out); rintro e w12 ⟨rfl, hb⟩; refine ⟨_, rfl, ?_⟩; have n0_ := Aside0.mk (blk_below (g := gb115) (o := .cells #[.int .i64 a0_0, .string a0_1, .int .i64 a0_2, .int .i64 a0_3, .slice (some ad116) l0_4.length c0_4] 24 (0, 0)) (by (with_reducible repeat (first|refine blk_drewN ?_ _|refine blk_drew ?_|refine blk_alloc ?_ _)); refine blk_far ?_ NB115_117.out _; (with_reducible repeat (first|refine blk_drewN ?_ _|refine blk_drew ?_|refine blk_alloc ?_ _)); refine blk_far ?_ NB115_117.out _; (with_reducible repeat (first|refine blk_drewN ?_ _|refine blk_drew ?_|refine blk_alloc ?_ _)); refine blk_far ?_ NB115_117.out _; (with_reducible repeat (first|refine blk_drewN ?_ _|refine blk_drew ?_|refine blk_alloc ?_ _)); refine blk_far ?_ NB115_117.out _; (with_reducible repeat (first|refine blk_drewN ?_ _|refine blk_drew ?_|refine blk_alloc ?_ _)); refine blk_far ?_ NB115_117.out _; (with_reducible repeat (first|refine blk_drewN ?_ _|refine blk_drew ?_|refine blk_alloc ?_ _)); exact BK115.out) hb); have n1_ := Aside0.mk (blk_below (g := gb117) (o := .cells #[.int .i64 ((rd_T24 l0_4 x9_1).f0), .string ((rd_T24 l0_4 x9_1).f1), .int .i64 ((rd_T24 l0_4 x9_1).f2), .int .i64 ((rd_T24 l0_4 x9_1).f3), .slice A116_4 ((rd_T24 l0_4 x9_1).f4).length c116_4] 24 (0, 0)) (by (with_reducible repeat (first|refine blk_drewN ?_ _|refine blk_drew ?_|refine blk_alloc ?_ _)); refine blk_put (cs := #[.int .i64 ((rd_T24 l0_4 x9_1).f0), .string ((rd_T24 l0_4 x9_1).f1), .int .i64 ((rd_T24 l0_4 x9_1).f2), .int .i64 ((rd_T24 l0_4 x9_1).f3), .slice none 0 0]) ?_ 4 _ rfl; (with_reducible repeat (first|refine blk_drewN ?_ _|refine blk_drew ?_|refine blk_alloc ?_ _)); refine blk_put (cs := #[.int .i64 ((rd_T24 l0_4 x9_1).f0), .string ((rd_T24 l0_4 x9_1).f1), .int .i64 ((rd_T24 l0_4 x9_1).f2), .int .i64 0, .slice none 0 0]) ?_ 3 _ rfl; (with_reducible repeat (first|refine blk_drewN ?_ _|refine blk_drew ?_|refine blk_alloc ?_ _)); refine blk_put (cs := #[.int .i64 ((rd_T24 l0_4 x9_1).f0), .string ((rd_T24 l0_4 x9_1).f1), .int .i64 0, .int .i64 0, .slice none 0 0]) ?_ 2 _ rfl; (with_reducible repeat (first|refine blk_drewN ?_ _|refine blk_drew ?_|refine blk_alloc ?_ _)); refine blk_put (cs := #[.int .i64 ((rd_T24 l0_4 x9_1).f0), .string (⟨#[]⟩ : ByteArray), .int .i64 0, .int .i64 0, .slice none 0 0]) ?_ 1 _ rfl; (with_reducible repeat (first|refine blk_drewN ?_ _|refine blk_drew ?_|refine blk_alloc ?_ _)); refine blk_put (cs := #[.int .i64 0, .string (⟨#[]⟩ : ByteArray), .int .i64 0, .int .i64 0, .slice none 0 0]) ?_ 0 _ rfl; (with_reducible repeat (first|refine blk_drewN ?_ _|refine blk_drew ?_|refine blk_alloc ?_ _)); exact BK117.out) hb); have n2_ := Aside0.mk (below_step (by repeat (first|(with_reducible first|exact HB.out|apply below_alloc|apply pw_below_drewN|apply below_drew1|refine below_set ?_ GE115.out|refine below_set ?_ GE117.out)|exact HB.out)) hb); clear BK115; clear BK117; clear HB; have BK115 := n0_; have BK117 := n1_; have HB := n2_; clear n0_ n1_ n2_; (try clear hb); (try clear hb2); (try clear hk); (try clear hi)))
      go_roundg k1
      case measure => have := HK1.out; omega
      case rel => exact ⟨(ji8), (wrap64 (x9_1 + 1)), (by first|rfl|(simp; done)|(simp only [← hji8] <;> (first|rfl | simp))|(simp [*]; done)), (by first|rfl|(simp; done)|(simp [*]; done)), H', ⟨by have := HK1.out; omega⟩, ⟨by (with_reducible repeat (first|refine blk_drewN ?_ _|refine blk_drew ?_|refine blk_alloc ?_ _)); exact BK115.out⟩, ⟨by repeat (first|(with_reducible first|exact HB.out|apply below_alloc|apply pw_below_drewN|apply below_drew1|refine below_set ?_ GE115.out|refine below_set ?_ GE117.out)|exact HB.out)⟩⟩
     ·rw [if_neg c6] at H
      exact absurd H (by simp)
    ·rw [if_neg c5] at H
     exact absurd H (by simp)
   ·rw [if_neg c4] at H
    have c4b0 : decide (x9_1 < (l0_4.length : Int)) = false := decide_eq_false c4
    clear c4
    obtain rfl := Option.some.inj H
    go_wp2
    go_ret
    exact ⟨by first|rfl|(simp [errW_none, errW_some] <;> rfl)|(simp [*, errW_none, errW_some] <;> rfl), by repeat (first|(with_reducible first|exact HB.out|apply below_alloc|apply pw_below_drewN|apply below_drew1|refine below_set ?_ GE115.out)|exact HB.out)⟩

end Go.Proofs.YthdkjfhpbigdpaaDoor.Q
