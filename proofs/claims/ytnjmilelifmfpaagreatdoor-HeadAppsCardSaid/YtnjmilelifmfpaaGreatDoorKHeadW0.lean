-- Written for this claim: several texts in one.
import Derived.Laws.OwnMore
import Derived.Below
import Derived.Orders
import Derived.Laws.Tables
import Derived.Great.BuildSlice
import Derived.Laws.BytesString
import Derived.Laws.Slices
import Derived.Laws.Strings
set_option linter.unusedSimpArgs false
set_option linter.unusedVariables false
namespace Go.Proofs.YtnjmilelifmfpaaGreatDoor.Ev
open Go Go.RowKit

inductive AV where
 | any
 | s (x : Value)
 | agg (cs : List AV)
 | tup (vs : List AV)
 | row (xs : List (List AV))
 | ref (k : Nat)
 | rptr (k sz i off : Nat)
 | ptr (b : Nat) (off : Nat)
 | elt (cs : List AV) (off : Nat)
 | fn (f : Nat) (first caps : List AV)

instance : Inhabited AV := ⟨.any⟩
abbrev Snap := Nat → Nat → Option Value

mutual
inductive Pur (S : Snap) : AV → Value → Prop
 | s {x : Value} : x.oneCell' = true → Pur S (.s x) x
 | row {b o : Nat} {xs : List (List AV)} {len cap : Nat} (sz : Nat) : (∀ c ∈ xs, c.length = sz) → Rows S b o xs → xs.length = len → len ≤ cap → Pur S (.row xs) (.slice (some ⟨b, o, none⟩) len cap)
 | nil {A : Option Addr} {cap : Nat} : Pur S (.row []) (.slice A 0 cap)
 | any {v : Value} : v.oneCell' = true → Pur S .any v
inductive Cells (S : Snap) : Nat → Nat → List AV → Prop
 | nil {b o : Nat} : Cells S b o []
 | cons {b o : Nat} {v : Value} {c : AV} {cs : List AV} : S b o = some v → Pur S c v → Cells S b (o + 1) cs → Cells S b o (c :: cs)
inductive Rows (S : Snap) : Nat → Nat → List (List AV) → Prop
 | nil {b o : Nat} : Rows S b o []
 | cons {b o : Nat} {c : List AV} {xs : List (List AV)} : Cells S b o c → Rows S b (o + c.length) xs → Rows S b o (c :: xs)
end

def SLe (S S' : Snap) : Prop := ∀ b o v, S b o = some v → S' b o = some v
theorem SLe.refl (S : Snap) : SLe S S := fun _ _ _ h => h
theorem SLe.trans {A B C : Snap} (h : SLe A B) (k : SLe B C) : SLe A C := fun b o v x => k b o v (h b o v x)

mutual
theorem Pur.mono {S S' : Snap} (h : SLe S S') : ∀ {a : AV} {v : Value}, Pur S a v → Pur S' a v
 | _, _, .s k => .s k
 | _, _, .row sz k r l m => .row sz k (r.mono h) l m
 | _, _, .nil => .nil
 | _, _, .any k => .any k
theorem Cells.mono {S S' : Snap} (h : SLe S S') : ∀ {b o : Nat} {cs : List AV}, Cells S b o cs → Cells S' b o cs
 | _, _, _, .nil => .nil
 | _, _, _, .cons x p r => .cons (h _ _ _ x) (p.mono h) (r.mono h)
theorem Rows.mono {S S' : Snap} (h : SLe S S') : ∀ {b o : Nat} {xs : List (List AV)}, Rows S b o xs → Rows S' b o xs
 | _, _, _, .nil => .nil
 | _, _, _, .cons c r => .cons (c.mono h) (r.mono h)
end

theorem Pur.one {S : Snap} {a : AV} {v : Value} (h : Pur S a v) : v.oneCell' = true := by cases h <;> first | assumption|rfl

theorem Cells.get {S : Snap} : ∀ {cs : List AV} {b o : Nat}, Cells S b o cs → ∀ {i : Nat} {c : AV}, cs[i]? = some c → ∃ v, S b (o + i) = some v ∧ Pur S c v
 | _ :: cs, b, o, .cons x p r, 0, c, h => by cases h; exact ⟨_, x, p⟩
 | _ :: cs, b, o, .cons x p r, i + 1, c, h => by
  obtain ⟨v, hv, hp⟩ := r.get (i := i) (by simpa using h)
  exact ⟨v, by rw [show o + (i + 1) = o + 1 + i by omega]; exact hv, hp⟩
theorem Cells.vals {S : Snap} : ∀ {cs : List AV} {b o : Nat}, Cells S b o cs → ∃ vs : List Value, vs.length = cs.length ∧ (∀ (j : Nat) (v : Value), vs[j]? = some v → S b (o + j) = some v) ∧ ∀ (j : Nat) (c : AV), cs[j]? = some c → ∃ v, vs[j]? = some v ∧ Pur S c v
 | [], _, _, _ => ⟨[], rfl, by simp, by simp⟩
 | _ :: cs, b, o, .cons (v := v) x p r => by
  obtain ⟨vs, h1, h2, h3⟩ := r.vals
  refine ⟨v :: vs, by simp [h1], fun j u hu => ?_, fun j c hc => ?_⟩
  ·cases j with
   | zero => simp at hu; subst hu; exact x
   | succ j => rw [show o + (j + 1) = o + 1 + j by omega]; exact h2 j u (by simpa using hu)
  ·cases j with
   | zero => simp at hc; subst hc; exact ⟨v, rfl, p⟩
   | succ j => simpa using h3 j c (by simpa using hc)
theorem Cells.drop {S : Snap} : ∀ {cs : List AV} {b o : Nat}, Cells S b o cs → ∀ n, Cells S b (o + n) (cs.drop n)
 | [], _, _, _, n => by simpa using Cells.nil
 | _ :: cs, b, o, h, 0 => by simpa using h
 | _ :: cs, b, o, .cons x p r, n + 1 => by rw [show o + (n + 1) = o + 1 + n by omega]; simpa using r.drop n
theorem Cells.take {S : Snap} : ∀ {cs : List AV} {b o : Nat}, Cells S b o cs → ∀ n, Cells S b o (cs.take n)
 | [], _, _, _, n => by simpa using Cells.nil
 | _ :: cs, b, o, _, 0 => by simpa using Cells.nil
 | _ :: cs, b, o, .cons x p r, n + 1 => by simpa using Cells.cons x p (r.take n)
theorem Rows.get {S : Snap} {sz : Nat} : ∀ {xs : List (List AV)} {b o : Nat}, (∀ c ∈ xs, c.length = sz) → Rows S b o xs → ∀ {i : Nat} {c : List AV}, xs[i]? = some c → Cells S b (o + i * sz) c
 | _ :: xs, b, o, _, .cons x r, 0, c, h => by cases h; simpa using x
 | c0 :: xs, b, o, hk, .cons x r, i + 1, c, h => by
  have := r.get (sz := sz) (fun c hc => hk c (List.mem_cons_of_mem _ hc)) (i := i) (by simpa using h)
  have h0 := hk c0 (List.mem_cons_self ..)
  rwa [h0, show o + sz + i * sz = o + (i + 1) * sz by rw [Nat.add_mul]; omega] at this
theorem Rows.drop {S : Snap} {sz : Nat} : ∀ {xs : List (List AV)} {b o : Nat}, (∀ c ∈ xs, c.length = sz) → Rows S b o xs → ∀ n, n ≤ xs.length → Rows S b (o + n * sz) (xs.drop n)
 | [], _, _, _, _, n, h => by simpa using Rows.nil
 | _ :: xs, b, o, _, h, 0, _ => by simpa using h
 | c0 :: xs, b, o, hk, .cons x r, n + 1, hn => by
  have := r.drop (sz := sz) (fun c hc => hk c (List.mem_cons_of_mem _ hc)) n (by simpa using hn)
  have h0 := hk c0 (List.mem_cons_self ..)
  rw [h0, show o + sz + n * sz = o + (n + 1) * sz by rw [Nat.add_mul]; omega] at this
  simpa using this
theorem Rows.take {S : Snap} : ∀ {xs : List (List AV)} {b o : Nat}, Rows S b o xs → ∀ n, Rows S b o (xs.take n)
 | [], _, _, _, n => by simpa using Rows.nil
 | _ :: xs, b, o, _, 0 => by simpa using Rows.nil
 | _ :: xs, b, o, .cons x r, n + 1 => by simpa using Rows.cons x (r.take n)
theorem Cells.append {S : Snap} : ∀ {c d : List AV} {b o : Nat}, Cells S b o c → Cells S b (o + c.length) d → Cells S b o (c ++ d)
 | [], _, _, _, _, y => by simpa using y
 | _ :: c, d, b, o, .cons hs p r, y => .cons hs p (r.append (by rwa [List.length_cons, show o + (c.length + 1) = o + 1 + c.length by omega] at y))
theorem Rows.flat {S : Snap} : ∀ {xs : List (List AV)} {b o : Nat}, Rows S b o xs → Cells S b o xs.flatten
 | [], _, _, _ => .nil
 | _ :: _, _, _, .cons x r => x.append r.flat
theorem Rows.of_flat {S : Snap} : ∀ {xs : List (List AV)} {b o : Nat}, Cells S b o xs.flatten → Rows S b o xs
 | [], _, _, _ => .nil
 | c :: xs, b, o, h => by
  have h1 := h.take c.length
  have h2 := h.drop c.length
  simp only [List.flatten_cons, List.take_left', List.drop_left'] at h1 h2
  exact .cons h1 (Rows.of_flat h2)
end Go.Proofs.YtnjmilelifmfpaaGreatDoor.Ev

namespace Go.Proofs.YtnjmilelifmfpaaGreatDoor.Ev
open Go Go.RowKit

inductive All2 {α β : Type} (R : α → β → Prop) : List α → List β → Prop
 | nil : All2 R [] []
 | cons {a : α} {b : β} {la : List α} {bs : List β} : R a b → All2 R la bs → All2 R (a :: la) (b :: bs)
theorem All2.imp {α β : Type} {R T : α → β → Prop} (f : ∀ a b, R a b → T a b) : ∀ {la : List α} {bs : List β}, All2 R la bs → All2 T la bs
 | _, _, .nil => .nil
 | _, _, .cons h k => .cons (f _ _ h) (k.imp f)
theorem All2.length {α β : Type} {R : α → β → Prop} : ∀ {la : List α} {bs : List β}, All2 R la bs → la.length = bs.length
 | _, _, .nil => rfl
 | _, _, .cons _ k => by simp [k.length]
theorem All2.get {α β : Type} {R : α → β → Prop} : ∀ {la : List α} {bs : List β}, All2 R la bs → ∀ {i : Nat} {a : α}, la[i]? = some a → ∃ b, bs[i]? = some b ∧ R a b
 | _, _, .cons h k, 0, a, e => by cases e; exact ⟨_, rfl, h⟩
 | _, _, .cons h k, i + 1, a, e => by simpa using k.get (i := i) (by simpa using e)
theorem All2.append {α β : Type} {R : α → β → Prop} : ∀ {la : List α} {bs : List β} {la' : List α} {bs' : List β}, All2 R la bs → All2 R la' bs' → All2 R (la ++ la') (bs ++ bs')
 | _, _, _, _, .nil, k => k
 | _, _, _, _, .cons h r, k => .cons h (r.append k)
theorem All2.take {α β : Type} {R : α → β → Prop} : ∀ {la : List α} {bs : List β}, All2 R la bs → ∀ n, All2 R (la.take n) (bs.take n)
 | _, _, .nil, n => by simpa using All2.nil
 | _, _, .cons _ _, 0 => by simpa using All2.nil
 | _, _, .cons h k, n + 1 => by simpa using All2.cons h (k.take n)
theorem All2.drop {α β : Type} {R : α → β → Prop} : ∀ {la : List α} {bs : List β}, All2 R la bs → ∀ n, All2 R (la.drop n) (bs.drop n)
 | _, _, .nil, n => by simpa using All2.nil
 | _, _, h, 0 => by simpa using h
 | _, _, .cons h k, n + 1 => by simpa using k.drop n
theorem All2.map {α β γ δ : Type} {R : α → β → Prop} {T : γ → δ → Prop} (f : α → γ) (g : β → δ) (h : ∀ a b, R a b → T (f a) (g b)) : ∀ {la : List α} {bs : List β}, All2 R la bs → All2 T (la.map f) (bs.map g)
 | _, _, .nil => .nil
 | _, _, .cons x k => .cons (h _ _ x) (k.map f g h)

structure Gh where
 S : Snap
 ι : Nat → Option Nat
 τ : Nat → Option Value

inductive Cel (g : Gh) : AV → Value → Prop
 | pur {a : AV} {v : Value} : Pur g.S a v → Cel g a v
 | ref {k : Nat} {v : Value} : g.τ k = some v → v.oneCell' = true → Cel g (.ref k) v
 | rptr {k sz i off b n cap : Nat} : g.τ k = some (.slice (some ⟨b, 0, none⟩) n cap) → Cel g (.rptr k sz i off) (.pointer (some ⟨b, i * sz + off, none⟩))
 | ptr {b off h : Nat} : g.ι b = some h → Cel g (.ptr b off) (.pointer (some ⟨h, off, none⟩))
 | elt {b o off : Nat} {cs : List AV} : Cells g.S b o cs → Cel g (.elt cs off) (.pointer (some ⟨b, o + off, none⟩))
inductive Com (g : Gh) : AV → Value → Prop
 | cel {a : AV} {v : Value} : Cel g a v → Com g a v
 | agg {cs : List AV} {vs : List Value} : All2 (Cel g) cs vs → Com g (.agg cs) (.agg vs.toArray)
 | fn {f : Nat} {xs ys : List AV} {us vs : List Value} : All2 (Cel g) xs us → All2 (Cel g) ys vs → Com g (.fn f xs ys) (.func (.func f) us.toArray vs.toArray)
inductive Rep (g : Gh) : AV → Value → Prop
 | com {a : AV} {v : Value} : Com g a v → Rep g a v
 | tup {cs : List AV} {vs : List Value} : All2 (Com g) cs vs → Rep g (.tup cs) (.tuple vs.toArray)
 | any {v : Value} : Rep g .any v

structure Gh.Le (g g' : Gh) : Prop where
 S : SLe g.S g'.S
 ι : ∀ b h, g.ι b = some h → g'.ι b = some h
 τ : ∀ k x, g.τ k = some x → g'.τ k = some x
theorem Gh.Le.refl (g : Gh) : g.Le g := ⟨SLe.refl _, fun _ _ h => h, fun _ _ h => h⟩
theorem Cel.mono {g g' : Gh} (h : g.Le g') {a : AV} {v : Value} : Cel g a v → Cel g' a v
 | .pur p => .pur (p.mono h.S)
 | .ref k o => .ref (h.τ _ _ k) o
 | .rptr k => .rptr (h.τ _ _ k)
 | .ptr k => .ptr (h.ι _ _ k)
 | .elt c => .elt (c.mono h.S)
theorem Com.mono {g g' : Gh} (h : g.Le g') {a : AV} {v : Value} : Com g a v → Com g' a v
 | .cel c => .cel (c.mono h)
 | .agg cs => .agg (cs.imp fun _ _ c => c.mono h)
 | .fn xs ys => .fn (xs.imp fun _ _ c => c.mono h) (ys.imp fun _ _ c => c.mono h)
theorem Rep.mono {g g' : Gh} (h : g.Le g') {a : AV} {v : Value} : Rep g a v → Rep g' a v
 | .com c => .com (c.mono h)
 | .tup cs => .tup (cs.imp fun _ _ c => c.mono h)
 | .any => .any
theorem Cel.one {g : Gh} {a : AV} {v : Value} (h : Cel g a v) : v.oneCell' = true := by
 cases h with
 | pur p => exact p.one
 | ref k o => exact o
 | rptr => rfl
 | ptr => rfl
 | elt => rfl

structure GR where
 e : TypeId
 sz : Nat
 xs : List (List AV)
 live : Bool
structure AS where
 t : Nat → AV
 bx : Nat → Option (List AV)
 gr : Nat → Option GR
 nx : Nat

structure Keep (B : Nat) (gs : List Nat) (w w' : World) : Prop where
 os : w'.os = w.os
 tape : w'.tape = w.tape
 output : w'.output = w.output
 size : w.heap.size ≤ w'.heap.size
 block : ∀ k, k < B → k ∉ gs → w'.heap[k]? = w.heap[k]?
theorem Keep.refl (B : Nat) (gs : List Nat) (w : World) : Keep B gs w w := ⟨rfl, rfl, rfl, Nat.le_refl _, fun _ _ _ => rfl⟩
theorem Keep.trans {B : Nat} {gs : List Nat} {a b c : World} (h : Keep B gs a b) (k : Keep B gs b c) : Keep B gs a c :=
 ⟨k.os.trans h.os, k.tape.trans h.tape, k.output.trans h.output, Nat.le_trans h.size k.size, fun i hi hn => (k.block i hi hn).trans (h.block i hi hn)⟩
theorem Keep.below {B : Nat} {w w' : World} (h : Keep B [] w w') : Below B w w' := ⟨h.os, h.tape, h.output, h.size, fun k hk => h.block k hk (by simp)⟩
theorem Keep.of_below {B : Nat} {gs : List Nat} {w w' : World} (h : Below B w w') : Keep B gs w w' := ⟨h.os, h.tape, h.output, h.size, fun k hk _ => h.block k hk⟩

def Agr (S : Snap) (w : World) : Prop := (∀ b o v, S b o = some v → w.cell? ⟨b, o, none⟩ = some v) ∧ ∀ b o v o' v', S b o = some v → w.cell? ⟨b, o', none⟩ = some v' → S b o' = some v'
theorem Agr.lt {S : Snap} {w : World} (h : Agr S w) {b o : Nat} {v : Value} (k : S b o = some v) : b < w.heap.size := World.block_lt_of_cell? w _ (h.1 b o v k)

structure Cx where
 w0 : World
 S0 : Snap
 n : Nat
 gs : List Nat

def Base0 (v : Value) : Prop := v = .slice none 0 0 ∨ ∃ b n cap, v = .slice (some ⟨b, 0, none⟩) n cap
def Owns (st : AS) (g : Gh) : Bool × Nat → Nat → Prop
 | (true, b), h => st.bx b ≠ none ∧ g.ι b = some h
 | (false, k), h => (∃ r, st.gr k = some r ∧ r.live = true) ∧ ∃ v, g.τ k = some v ∧ v.ownBlock = some h

structure Rel (c : Cx) (fr : Nat → Prop) (g : Gh) (st : AS) (a : Act) (w : World) : Prop where
 size : a.tmps.size = c.n
 defers : a.defers = []
 keep : Keep c.w0.heap.size c.gs c.w0 w
 sle : SLe c.S0 g.S
 old : ∀ b o, b < c.w0.heap.size → g.S b o = c.S0 b o
 agr : Agr g.S w
 tmp : ∀ i, Rep g (st.t i) (a.tmps.getD i undef)
 box : ∀ b cs, st.bx b = some cs → ∃ h vs T, g.ι b = some h ∧ (c.w0.heap.size ≤ h ∨ h ∈ c.gs) ∧ w.heap[h]? = some (.cells vs T (0, 0)) ∧ All2 (Cel g) cs vs.toList ∧ ∀ o, g.S h o = none
 row : ∀ k r, st.gr k = some r → ∃ v, g.τ k = some v ∧ ((∀ c ∈ r.xs, c.length = r.sz) ∧ Base0 v) ∧
  (r.live = true → ∃ vs, w.ownsRow c.w0.heap.size r.e r.sz v r.xs.length vs ∧ All2 (Pur g.S) r.xs.flatten vs ∧ ∀ h, v.ownBlock = some h → ∀ o, g.S h o = none) ∧ (r.live = false → Pur g.S (.row r.xs) v)
 inj : ∀ x y h, Owns st g x h → Owns st g y h → x = y
 free : ∀ i, fr i → g.ι i = none ∧ g.τ i = none
 hand : ∀ j h, c.gs[j]? = some h → g.ι j = some h

def ofV : Value → AV
 | .agg cs => .agg (cs.toList.map .s)
 | .tuple vs => .tup (vs.toList.map .s)
 | v => .s v
def cOk : Value → Bool
 | .agg cs => cs.toList.all Value.oneCell'
 | .tuple vs => vs.toList.all Value.oneCell'
 | _ => true
theorem all2_s {g : Gh} : ∀ (l : List Value), l.all Value.oneCell' = true → All2 (Cel g) (l.map .s) l
 | [], _ => .nil
 | v :: l, h => by
  simp only [List.all_cons, Bool.and_eq_true] at h
  exact .cons (.pur (.s h.1)) (all2_s l h.2)
theorem rep_ofV {g : Gh} (v : Value) (h : cOk v = true) : Rep g (ofV v) v := by
 cases v <;> first
  | exact .com (.cel (.pur (.s rfl)))
  | (exact .com (.agg (all2_s _ h)))
  | (exact .tup ((all2_s _ h).imp fun _ _ c => .cel c))
def AS.ev (st : AS) : Operand → AV
 | .tmp t => st.t t
 | .const v => ofV v
 | .global g => .s (.pointer (some ⟨g, 0, none⟩))
 | .func f => .s (.func (.func f) #[] #[])
def oOk : Operand → Bool
 | .const v => cOk v
 | _ => true
theorem Rel.ev {c : Cx} {fr : Nat → Prop} {g : Gh} {st : AS} {a : Act} {w : World} (R : Rel c fr g st a w) (x : Operand) (h : oOk x = true) : Rep g (st.ev x) (a.eval x) := by
 cases x with
 | tmp t => exact R.tmp t
 | const v => exact rep_ofV v h
 | global b => exact .com (.cel (.pur (.s rfl)))
 | func f => exact .com (.cel (.pur (.s rfl)))

def pureRun {α : Type} (P : Program) : Sem α → Option α
 | .pure a => some a
 | .program k => pureRun P (k P)
 | .mark _ k => pureRun P k
 | _ => none
theorem pureRun_run {α : Type} {P : Program} {s : Sem α} {v : α} (h : pureRun P s = some v) (w : World) : s.run P w = .ok v w := by
 induction s with
 | pure a => simp only [pureRun, Option.some.injEq] at h; subst h; rfl
 | program k ih => exact ih _ (by simpa [pureRun] using h)
 | mark m k ih => exact ih (by simpa [pureRun] using h)
 | _ => simp [pureRun] at h

def cs1 : List AV → Option (List Value)
 | [] => some []
 | .s x :: r => (cs1 r).map (x :: ·)
 | _ => none
theorem cs1_rep {g : Gh} : ∀ {cs : List AV} {vs : List Value} {l : List Value}, All2 (Cel g) cs vs → cs1 cs = some l → l = vs
 | [], _, l, .nil, h => by simpa [cs1] using h.symm
 | a :: cs, _, l, .cons x r, h => by
  cases a <;> simp only [cs1, Option.map_eq_some_iff, reduceCtorEq] at h
  obtain ⟨l', h', rfl⟩ := h
  rw [cs1_rep r h']
  cases x with
  | pur p => cases p; rfl
def sc : AV → Option Value
 | .s x => some x
 | .agg cs => (cs1 cs).map fun l => .agg l.toArray
 | _ => none
theorem sc_rep {g : Gh} {a : AV} {v u : Value} (h : Rep g a v) (k : sc a = some u) : v = u := by
 cases a <;> simp only [sc, Option.map_eq_some_iff, Option.some.injEq, reduceCtorEq] at k
 ·subst k
  cases h with
  | com c => cases c with
   | cel c => cases c with
    | pur p => cases p; rfl
 ·obtain ⟨l, hl, rfl⟩ := k
  cases h with
  | com c => cases c with
   | cel c => cases c with
    | pur p => cases p
   | agg cs => rw [cs1_rep cs hl]
end Go.Proofs.YtnjmilelifmfpaaGreatDoor.Ev

namespace Go.Proofs.YtnjmilelifmfpaaGreatDoor.Ev
open Go Go.RowKit

inductive Sc where
 | bin (op : BinOp) (t : TypeId)
 | un (op : UnOp)
 | cv (s d : TypeId)
 | ix (t : TypeId)
 | sl (t : TypeId) (lo hi : Bool)
 | mi (t : TypeId)
 | bi (b : Builtin) (ts : List TypeId) (t : TypeId)

inductive AOp where
 | mv (x : Operand)
 | pick (c a b : Operand)
 | sc (k : Sc) (xs : List Operand)
 | bld (z : List Value) (ps : List (Nat × Nat × Operand))
 | nc (x : Operand)
 | fa (off : Nat) (x : Operand)
 | fd (ag : Bool) (off n : Nat) (x : Operand)
 | ia (sz : Nat) (x i : Operand)
 | rs (sz : Nat) (x : Operand) (lo hi : Option Operand)
 | ex (x : Operand) (i : Nat)
 | ln (x : Operand)
 | bts (x : Operand)
 | ld (ag : Bool) (n : Nat) (x : Operand)
 | box (x : Operand)
 | alloc (z : List Value)
 | st (n : Nat) (p x : Operand)
 | bs (e sz : Nat) (ps : List Operand)
 | ap (e sz bytes : Nat) (x y : Operand)
 | call (f : FuncId) (xs : List Operand)
 | pan (x : Operand)
 | clo (f : FuncId) (xs ys : List Operand)
 | mks (e sz bytes : Nat) (z : List Value) (x : Operand)
 | callh (x : Operand) (xs : List Operand)

def Sc.sem (P : Program) : Sc → List Operand → List Value → Sem Value
 | .bin op t, [x, y], [u, v] => do eqGuard op t x y u v; binOp op t u v
 | .un op, _, [u] => Op.unary op u
 | .cv s d, _, [u] => convert s d u
 | .ix t, _, [u, i] => Instr.index t u i
 | .sl t true true, _, [u, l, h] => Instr.sliceAt t u (some l) (some h) none
 | .sl t true false, _, [u, l] => Instr.sliceAt t u (some l) none none
 | .sl t false true, _, [u, h] => Instr.sliceAt t u none (some h) none
 | .sl t false false, _, [u] => Instr.sliceAt t u none none none
 | .mi t, _, [u] => Instr.makeInterface t u
 | .bi .len ts t, _, us => Builtin.len_ ts.toArray t us.toArray
 | .bi .min ts t, _, us => Builtin.min_ ts.toArray t us.toArray
 | .bi .max ts t, _, us => Builtin.max_ ts.toArray t us.toArray
 | _, _, _ => stuck ""
def scv (P : Program) (k : Sc) (xs : List Operand) (vs : List Value) : Option AV :=
 match pureRun P (k.sem P xs vs) with
 | some r => if r.oneCell' then some (.s r) else none
 | none => none
def scs : List AV → Option (List Value)
 | [] => some []
 | a :: r => match sc a, scs r with | some x, some l => some (x :: l) | _, _ => none

def cellsA : AV → Option (List AV)
 | .agg cs => some cs
 | .tup _ => none
 | .any => none
 | .fn .. => none
 | v => some [v]
def put1 (cs : List AV) (off : Nat) (new : List AV) : List AV := cs.take off ++ new ++ cs.drop (off + new.length)
def fillA : List AV → List (Nat × Nat × AV) → Option (List AV)
 | cs, [] => some cs
 | cs, (off, sz, v) :: r =>
  match cellsA v with
  | some new => if new.length = sz ∧ off + sz ≤ cs.length then fillA (put1 cs off new) r else none
  | none => none
def cut (ag : Bool) (off n : Nat) (cs : List AV) : Option AV :=
 if ag then (if off + n ≤ cs.length then some (.agg ((cs.drop off).take n)) else none) else cs[off]?
abbrev Gr := Nat → Option GR
def rowOf (gr : Gr) : AV → Option (List (List AV))
 | .row xs => some xs
 | .ref k => match gr k with | some r => some r.xs | none => none
 | .s (.slice none 0 0) => some []
 | _ => none
def roOf : AV → Option (List (List AV))
 | .row xs => some xs
 | .s (.slice none 0 0) => some []
 | _ => none
def idxOf : AV → Option Nat
 | .s (.int _ n) => if 0 ≤ n then some n.toNat else none
 | _ => none
def byteList : List (List AV) → Option (List UInt8)
 | [] => some []
 | [.s (.int .u8 n)] :: r => (byteList r).map (UInt8.ofNat n.toNat :: ·)
 | _ => none
def isCell : AV → Bool
 | .agg _ | .tup _ | .any | .fn .. => false
 | _ => true
def cells1 : List AV → Option (List AV)
 | [] => some []
 | a :: r => match isCell a, cells1 r with | true, some l => some (a :: l) | _, _ => none
def pv (P : Program) (ev : Operand → AV) (bx : Nat → Option (List AV)) (gr : Gr) : AOp → Option AV
 | .mv x => some (ev x)
 | .pick c a b => match ev c with | .s (.bool t) => some (if t then ev a else ev b) | _ => none
 | .sc k xs => match scs (xs.map ev) with | some vs => scv P k xs vs | none => none
 | .bld z ps => (fillA (z.map .s) (ps.map fun p => (p.1, p.2.1, ev p.2.2))).map .agg
 | .nc x => match ev x with | .ptr b o => some (.ptr b o) | .elt cs o => some (.elt cs o) | .rptr k sz i o => some (.rptr k sz i o) | _ => none
 | .fa off x => match ev x with | .ptr b o => some (.ptr b (o + off)) | .elt cs o => some (.elt cs (o + off)) | .rptr k sz i o => some (.rptr k sz i (o + off)) | _ => none
 | .fd ag off n x => match ev x with | .agg cs => cut ag off n cs | _ => none
 | .ia sz x i => match ev x with
  | .ref k => match gr k, idxOf (ev i) with
   | some r, some j => if j < r.xs.length ∧ r.sz = sz then some (.rptr k sz j 0) else none
   | _, _ => none
  | .row xs => match idxOf (ev i) with
   | some j => match xs[j]? with | some c => if c.length = sz then some (.elt c 0) else none | none => none
   | none => none
  | _ => none
 | .rs sz x lo hi => match roOf (ev x) with
  | some xs => match (match lo with | some l => idxOf (ev l) | none => some 0), (match hi with | some h => idxOf (ev h) | none => some xs.length) with
   | some l, some h => if l ≤ h ∧ h ≤ xs.length ∧ (xs.all fun c => c.length == sz) then some (.row ((xs.take h).drop l)) else none
   | _, _ => none
  | none => none
 | .ex x i => match ev x with | .tup vs => vs[i]? | _ => none
 | .ln x => match rowOf gr (ev x) with | some xs => some (.s (.int .i64 xs.length)) | none => none
 | .bts x => match rowOf gr (ev x) with | some xs => (byteList xs).map fun l => .s (.string ⟨l.toArray⟩) | none => none
 | .ld ag n x => match ev x with
  | .ptr b o => match bx b with | some cs => cut ag o n cs | none => none
  | .elt cs o => cut ag o n cs
  | .rptr k sz i o => match gr k with
   | some r => match r.xs[i]? with | some cs => if r.sz = sz then cut ag o n cs else none | none => none
   | none => none
  | _ => none
 | .clo f xs ys => match cells1 (xs.map ev), cells1 (ys.map ev) with | some l, some m => some (.fn f l m) | _, _ => none
 | _ => none

def upd {α : Type} (f : Nat → Option α) (i : Nat) (v : Option α) : Nat → Option α := fun j => if j = i then v else f j
def AS.put (st : AS) (d : Option Nat) (v : AV) : AS := match d with | some d => { st with t := fun i => if i = d then v else st.t i } | none => st

def pcell (gr : Gr) : AV → AV
 | .s (.slice none 0 0) => .row []
 | .s x => .s x
 | .row xs => .row xs
 | .ref k => match gr k with | some r => .row r.xs | none => .any
 | _ => .any
def strip (gr : Gr) : AV → AV
 | .agg cs => .agg (cs.map (pcell gr))
 | .fn f xs ys => .fn f (xs.map (pcell gr)) (ys.map (pcell gr))
 | .tup _ => .any
 | a => pcell gr a
def pcellK (gr : Gr) : AV → AV
 | .s (.slice none 0 0) => .s (.slice none 0 0)
 | a => pcell gr a
def stripK (gr : Gr) : AV → AV
 | .agg cs => .agg (cs.map (pcellK gr))
 | .s (.slice none 0 0) => .s (.slice none 0 0)
 | a => strip gr a
def stripB (k : Bool) (gr : Gr) (x : AV) : AV := match k with | true => stripK gr x | false => strip gr x
def refC : AV → List Nat
 | .ref k => [k]
 | _ => []
def refs : AV → List Nat
 | .agg cs => cs.flatMap refC
 | .fn _ xs ys => xs.flatMap refC ++ ys.flatMap refC
 | a => refC a
def GR.shut (r : GR) : GR := { r with live := false }
def shut (gr : Gr) (ks : List Nat) : Gr := fun k => if k ∈ ks then (gr k).map GR.shut else gr k
def flat1 : AV → Bool
 | .s _ => true
 | _ => false
def flat : AV → Bool
 | .s _ => true
 | .tup l => l.all flat1
 | _ => false
def lent (v : AV) (ks : List Nat) : List Nat := match flat v with | true => [] | false => ks
def here (gr : Gr) (ks : List Nat) : Bool := ks.all fun k => (gr k).isSome
def elemsOf (gr : Gr) (sz : Nat) : List AV → Option (List (List AV))
 | [] => some []
 | v :: r => match cellsA (strip gr v), elemsOf gr sz r with
  | some c, some l => if c.length = sz then some (c :: l) else none
  | _, _ => none
inductive AOut where
 | ret (v : AV)
 | pan (v : AV)
def AOut.on (K X : AV → Prop) : AOut → Prop
 | .ret v => K v
 | .pan v => X v
structure Env where
 sp : FuncId → List AV → AOut → Prop
 hn : Nat
instance : CoeFun Env fun _ => FuncId → List AV → AOut → Prop := ⟨Env.sp⟩
def pcellN : AV → AV
 | .s (.slice none 0 0) => .row []
 | .s x => .s x
 | .row xs => .row xs
 | _ => .any
def handsN (bx : Nat → Option (List AV)) : Nat → Nat → Option (List AV)
 | 0, _ => some []
 | n + 1, k => match bx k, handsN bx n (k + 1) with
  | some cs, some l => some (.agg (cs.map pcellN) :: l)
  | _, _ => none
def panV (hn : Nat) (bx : Nat → Option (List AV)) (x : AV) : Option AV := match hn with
 | 0 => some x
 | n + 1 => (handsN bx (n + 1) 0).map fun l => .tup (x :: l)
def growOf (e sz : Nat) (gr : Gr) : AV → Option (Option Nat × List (List AV))
 | .s (.slice none 0 0) => some (none, [])
 | .ref k => match gr k with | some r => if r.e = e ∧ r.sz = sz ∧ r.live = true then some (some k, r.xs) else none | none => none
 | _ => none
def killT (gr : Gr) : Option Nat → Gr
 | some k => upd gr k none
 | none => gr
def boxC : AV → List Nat
 | .ptr b _ => [b]
 | _ => []
def boxesOf : AV → List Nat
 | .fn _ xs ys => xs.flatMap boxC ++ ys.flatMap boxC
 | a => boxC a
def nub : List Nat → List Nat
 | [] => []
 | x :: l => x :: (nub l).filter fun y => !(y == x)
def ix : List Nat → Nat → Option Nat
 | [], _ => none
 | x :: l, b => if b = x then some 0 else (ix l b).map (· + 1)
def hcell (gr : Gr) (hs : List Nat) : AV → AV
 | .ptr b o => match ix hs b with | some j => .ptr j o | none => .any
 | a => pcell gr a
def hstrip (gr : Gr) (hs : List Nat) : AV → AV
 | .fn f xs ys => .fn f (xs.map (hcell gr hs)) (ys.map (hcell gr hs))
 | .ptr b o => hcell gr hs (.ptr b o)
 | a => strip gr a
def conts (bx : Nat → Option (List AV)) : List Nat → Option (List (List AV))
 | [] => some []
 | h :: r => match bx h, conts bx r with | some cs, some l => some (cs :: l) | _, _ => none
def setBx (bx : Nat → Option (List AV)) : List Nat → List (List AV) → Nat → Option (List AV)
 | h :: r, cs :: l => upd (setBx bx r l) h (some cs)
 | _, _ => bx
def tgt : AV → Option (FuncId × List AV × List AV)
 | .s (.func (.func f) a b) => if a.size = 0 ∧ b.size = 0 then some (f, [], []) else none
 | .fn f xs ys => some (f, xs, ys)
 | _ => none
def AOut.onH (hs : List Nat) (K : AV → List (List AV) → Prop) (X : AV → List (List AV) → Prop) : AOut → Prop
 | .ret v => match hs with | [] => K v [] | _ => ∃ u css, v = .tup (u :: css.map .agg) ∧ css.length = hs.length ∧ K u css
 | .pan v => match hs with | [] => X v [] | _ => ∃ u css, v = .tup (u :: css.map .agg) ∧ css.length = hs.length ∧ X u css
def argsH (gr : Gr) (hs : List Nat) (css : List (List AV)) (args : List AV) : List AV := match hs with
 | [] => args.map (strip gr)
 | _ => .tup (css.map fun cs => .agg (cs.map (pcell gr))) :: args.map (hstrip gr hs)
def Room (n bytes : Nat) : Prop := n ≤ 4611686018427387904 ∧ n * bytes ≤ 140737488355328

def callP (E : Env) (bx : Nat → Option (List AV)) (gr : Gr) (f : FuncId) (args : List AV) (hs : List Nat) (K : AV → (Nat → Option (List AV)) → Gr → Prop) (X : AV → (Nat → Option (List AV)) → Prop) : Prop :=
 match conts bx hs with
 | some css => here gr (args.flatMap refs ++ css.flatten.flatMap refC) = true ∧ ∃ out, E f (argsH gr hs css args) out ∧
   out.onH hs (fun v css' => K v (setBx bx hs css') (shut gr (args.flatMap refs ++ css.flatten.flatMap refC))) (fun v css' => X v (setBx bx hs css'))
 | none => False
def stp (P : Program) (E : Env) (id : Nat) (st : AS) (d : Option Nat) (K : AS → Prop) (X : AV → Prop) : AOp → Prop
 | .box x => ∃ cs, cellsA (st.ev x) = some cs ∧ K ({ st with bx := upd st.bx id (some cs) }.put d (.ptr id 0))
 | .alloc z => K ({ st with bx := upd st.bx id (some (z.map .s)) }.put d (.ptr id 0))
 | .st n p x => match st.ev p with
  | .ptr b o => ∃ cs new, st.bx b = some cs ∧ cellsA (st.ev x) = some new ∧ new.length = n ∧ o + n ≤ cs.length ∧ K ({ st with bx := upd st.bx b (some (put1 cs o new)) }.put d (.tup []))
  | .rptr k sz i o => ∃ r cs new, st.gr k = some r ∧ r.live = true ∧ r.sz = sz ∧ r.xs[i]? = some cs ∧ cellsA (strip st.gr (st.ev x)) = some new ∧ refs (st.ev x) = [] ∧ new.length = n ∧ o + n ≤ cs.length ∧
    K ({ st with gr := upd st.gr k (some { r with xs := r.xs.set i (put1 cs o new) }) }.put d (.tup []))
  | _ => False
 | .bs e sz ps => ∃ xs, elemsOf st.gr sz (ps.map st.ev) = some xs ∧ here st.gr ((ps.map st.ev).flatMap refs) = true ∧ K ({ st with gr := upd (shut st.gr ((ps.map st.ev).flatMap refs)) id (some ⟨e, sz, xs, true⟩) }.put d (.ref id))
 | .ap e sz bytes x y => ∃ k xs ys, growOf e sz st.gr (st.ev x) = some (k, xs) ∧ rowOf st.gr (st.ev y) = some ys ∧ (ys.all fun c => c.length == sz) = true ∧ Room (xs.length + ys.length) bytes ∧
   K ({ st with gr := upd (killT st.gr k) id (some ⟨e, sz, xs ++ ys, true⟩) }.put d (.ref id))
 | .call f xs => ∃ k out, E f (xs.map fun x => stripB k st.gr (st.ev x)) out ∧ here st.gr ((xs.map st.ev).flatMap refs) = true ∧ out.on (fun v => K ({ st with gr := shut st.gr (lent v ((xs.map st.ev).flatMap refs)) }.put d v)) (fun v => ∃ p, panV E.hn st.bx v = some p ∧ X p)
 | .pan x => ∃ t v p, st.ev x = .s (.iface t v) ∧ panV E.hn st.bx (.s (.iface t v)) = some p ∧ X p
 | .mks e sz bytes z x => ∃ n, idxOf (st.ev x) = some n ∧ Room n bytes ∧ K ({ st with gr := upd st.gr id (some ⟨e, sz, List.replicate n (z.map .s), true⟩) }.put d (.ref id))
 | .callh x xs => match tgt (st.ev x) with
  | some (f, ys, zs) => callP E st.bx st.gr f (ys ++ xs.map st.ev ++ zs) (nub ((ys ++ xs.map st.ev ++ zs).flatMap boxesOf)) (fun v b g => K ({ st with bx := b, gr := g }.put d v)) (fun v b => ∃ p, panV E.hn b v = some p ∧ X p)
  | none => False
 | o => ∃ v, pv P st.ev st.bx st.gr o = some v ∧ K (st.put d v)

theorem stp_callh {P : Program} {E : Env} {id : Nat} {st : AS} {d : Option Nat} {K : AS → Prop} {X : AV → Prop} {x : Operand} {xs : List Operand} : stp P E id st d K X (.callh x xs) ↔ ∃ f ys zs css out, tgt (st.ev x) = some (f, ys, zs) ∧
   conts st.bx (nub ((ys ++ xs.map st.ev ++ zs).flatMap boxesOf)) = some css ∧
   E f (argsH st.gr (nub ((ys ++ xs.map st.ev ++ zs).flatMap boxesOf)) css (ys ++ xs.map st.ev ++ zs)) out ∧
   here st.gr ((ys ++ xs.map st.ev ++ zs).flatMap refs ++ css.flatten.flatMap refC) = true ∧
   out.onH (nub ((ys ++ xs.map st.ev ++ zs).flatMap boxesOf))
    (fun v css' => K ({ st with bx := setBx st.bx (nub ((ys ++ xs.map st.ev ++ zs).flatMap boxesOf)) css', gr := shut st.gr ((ys ++ xs.map st.ev ++ zs).flatMap refs ++ css.flatten.flatMap refC) }.put d v))
    (fun v css' => ∃ p, panV E.hn (setBx st.bx (nub ((ys ++ xs.map st.ev ++ zs).flatMap boxesOf)) css') v = some p ∧ X p) := by
 simp only [stp]
 constructor
 ·intro h
  split at h
  ·rename_i f ys zs ht
   unfold callP at h
   split at h
   ·rename_i css hc
    obtain ⟨h1, out, h2, h3⟩ := h
    exact ⟨f, ys, zs, css, out, ht, hc, h2, h1, h3⟩
   ·exact h.elim
  ·exact h.elim
 ·rintro ⟨f, ys, zs, css, out, h1, h2, h3, h4, h5⟩
  rw [h1]
  simp only [callP]
  rw [h2]
  exact ⟨h4, out, h3, h5⟩
def want (st : AS) : Option (Nat × Bool) → Option Bool
 | none => some true
 | some (t, b) => match st.t t with | .s (.bool c) => some (c == b) | .s _ => some false | .tup _ => some false | _ => none
structure AOper where
 d : Option Nat
 g : Option (Nat × Bool)
 op : AOp
def stpG (P : Program) (E : Env) (id : Nat) (st : AS) (K : AS → Prop) (X : AV → Prop) (o : AOper) : Prop :=
 ∃ b, want st o.g = some b ∧ (if b then stp P E id st o.d K X o.op else K (st.put o.d (.tup [])))

inductive ACode where
 | skip
 | reg (ops : List (AOper × Bool))
 | seq (a b : ACode)
 | cond (c : Operand) (x y : ACode)
 | block (id : Nat) (c : ACode)
 | loop (c : ACode)
 | exit (id : Nat)
 | ret
 | bad
 | fgt
inductive AEx where
 | normal
 | exit (id : Nat)
 | ret
 | pan (v : AV)
def runOps (P : Program) (E : Env) (K : AS → Prop) (X : AV → Prop) : Nat → List (AOper × Bool) → AS → Prop
 | _, [], st => K st
 | id, (o, z) :: l, st => stpG P E id st (runOps P E K X (id + 1) l) (fun v => z = true ∧ X v) o
end Go.Proofs.YtnjmilelifmfpaaGreatDoor.Ev

namespace Go.Proofs.YtnjmilelifmfpaaGreatDoor.Ev
open Go Go.RowKit

def aggOf (P : Program) (t : TypeId) : Option Bool :=
  match P.underlying t with
  | some (.struct _) | some (.array _ _) => some true
  | some _ => some false
  | none => none
def szOf (P : Program) (t : TypeId) : Option Nat := (P.info? t).map (·.size)
theorem run_isAgg {P : Program} {t : TypeId} {b : Bool} (h : aggOf P t = some b) (w : World) : (isAgg t).run P w = .ok b w := by
  unfold aggOf at h
  cases hu : P.underlying t with
  | none => simp [hu] at h
  | some d =>
    have hr := run_underlying hu w
    cases d <;> simp [hu] at h <;> subst h <;> simp [isAgg, hr]
theorem run_sizeOf {P : Program} {t : TypeId} {n : Nat} (h : szOf P t = some n) (w : World) : (sizeOf t).run P w = .ok n w := by
  unfold szOf at h
  cases hi : P.info? t with
  | none => simp [hi] at h
  | some i => simp [hi] at h; subst h; simp [sizeOf, typeInfo, hi]
def zeroOf (P : Program) (t : TypeId) : Option (List Value) :=
  match P.info? t with
  | some i => match i.zero with | some v => if v.cells.toList.all Value.oneCell' then some v.cells.toList else none | none => none
  | none => none
theorem run_zero {P : Program} {t : TypeId} {z : List Value} (h : zeroOf P t = some z) (w : World) : ∃ v : Value, (zeroValue t).run P w = .ok v w ∧ v.cells.toList = z ∧ z.all Value.oneCell' = true := by
  unfold zeroOf at h
  cases hi : P.info? t with
  | none => simp [hi] at h
  | some i =>
    simp only [hi] at h
    cases hz : i.zero with
    | none => simp [hz] at h
    | some v =>
      simp only [hz] at h
      split at h
      · rename_i hall
        cases h
        exact ⟨v, by simp [zeroValue, typeInfo, hi, hz], rfl, hall⟩
      · cases h
def fieldOf (P : Program) (t : TypeId) (f : Nat) : Option (Bool × Nat × Nat) :=
  match P.underlying t with
  | some (.struct fs) => match fs[f]? with
    | some fd => match aggOf P fd.type, szOf P fd.type with | some ag, some n => some (ag, fd.offset, n) | _, _ => none
    | none => none
  | _ => none
def elemOf' (P : Program) (t : TypeId) : Option TypeId := match P.underlying t with | some (.slice e) => some e | _ => none
def isStr (P : Program) (t : TypeId) : Bool := match P.underlying t with | some .string => true | _ => false
def isPtrF (P : Program) (t : TypeId) : Bool := match P.underlying t with | some (.pointer _) => true | some (.func ..) => true | _ => false
def fnOk (P : Program) (f : FuncId) : Bool := ((P.funcs[f]?).map (fun fn => fn.body.isSome && fn.name != "runtime.NumGoroutine")).getD false
def sameO : Operand → Operand → Bool
  | .tmp a, .tmp b => a == b
  | .const (.int _ n), .const (.int _ m) => n == m
  | _, _ => false
def isByteRow (P : Program) (t : TypeId) : Bool := match P.underlying t with
  | some (.slice e) => match P.underlying e with | some (.int .u8) => true | _ => false
  | _ => false
def oAll (l : List Operand) : Bool := l.all oOk
def bldParts (P : Program) (t : TypeId) : List (Nat × Operand) → Option (List (Nat × Nat × Operand))
  | [] => some []
  | (i, x) :: r => match fieldOf P t i, bldParts P t r with
    | some (_, off, n), some l => some ((off, n, x) :: l)
    | _, _ => none
def rowParts : Nat → List (Nat × Operand) → Option (List Operand)
  | _, [] => some []
  | k, (i, x) :: r => if i = k then (rowParts (k + 1) r).map (x :: ·) else none
def fieldsOk (P : Program) (t : TypeId) : Bool := match P.underlying t with
  | some (.struct fs) => fs.toList.all fun f => (szOf P f.type).isSome
  | _ => false

def cop (P : Program) (o : Oper) : Option AOp :=
  match o.op with
  | .move x | .assign x => if oOk x then some (.mv x) else none
  | .pick c a b => if oAll [c, a, b] then some (.pick c a b) else none
  | .alloc t => (zeroOf P t).map .alloc
  | .box _ x => if oOk x then some (.box x) else none
  | .build t ps => match zeroOf P t, bldParts P t ps.toList with
    | some z, some l => if oAll (ps.toList.map (·.2)) && fieldsOk P t then some (.bld z l) else none
    | _, _ => none
  | .buildSlice t n ps => match elemOf' P t with
    | some e => match szOf P e, rowParts 0 ps.toList, zeroOf P e with
      | some sz, some l, some z => if oAll l && l.length == n && z.length == sz && decide (0 < sz) && decide (n * sz ≤ 2 ^ 24) then some (.bs e sz l) else none
      | _, _, _ => none
    | none => none
  | .load t x => match aggOf P t, szOf P t with
    | some ag, some n => if oOk x then some (.ld ag n x) else none
    | _, _ => none
  | .store t p x => match szOf P t with
    | some n => if oAll [p, x] then some (.st n p x) else none
    | none => none
  | .binOp op t x y _ => if oAll [x, y] then some (.sc (.bin op t) [x, y]) else none
  | .unOp op _ x => if oOk x then some (.sc (.un op) [x]) else none
  | .convert s d x => if oOk x then (if isByteRow P s && isStr P d then some (.bts x) else some (.sc (.cv s d) [x])) else none
  | .makeInterface t x => if oOk x then some (.sc (.mi t) [x]) else none
  | .slice t x lo hi none => if oAll ([x] ++ lo.toList ++ hi.toList) then
      (if isStr P t then some (.sc (.sl t lo.isSome hi.isSome) ([x] ++ lo.toList ++ hi.toList))
       else match elemOf' P t with
        | some e => (szOf P e).map fun sz => .rs sz x lo hi
        | none => none) else none
  | .nilCheck x => if oOk x then some (.nc x) else none
  | .fieldAddr t x f => match fieldOf P t f with
    | some (_, off, n) => if oOk x && n != 0 then some (.fa off x) else none
    | none => none
  | .field t x f => match fieldOf P t f with
    | some (ag, off, n) => if oOk x then some (.fd ag off n x) else none
    | none => none
  | .indexAddr t x i => match elemOf' P t with
    | some e => match szOf P e with | some sz => if oAll [x, i] then some (.ia sz x i) else none | none => none
    | none => none
  | .index t x i => if oAll [x, i] && isStr P t then some (.sc (.ix t) [x, i]) else none
  | .extract x i => if oOk x then some (.ex x i) else none
  | .call { callee := .builtin .append, args, argTypes } => match args.toList, argTypes.toList with
    | [x, y], [t, u] => match elemOf' P t with
      | some e => match P.info? e, zeroOf P e with
        | some i, some z => if t == u && oAll [x, y] && z.length == i.size && decide (0 < i.size) then some (.ap e i.size i.bytes x y) else none
        | _, _ => none
      | none => none
    | _, _ => none
  | .call { callee := .builtin .len, args, argTypes } => match args.toList, argTypes.toList with
    | [x], [t] => if oOk x then (if (elemOf' P t).isSome then some (.ln x) else some (.sc (.bi .len [t] o.type) [x])) else none
    | _, _ => none
  | .call { callee := .builtin .min, args, argTypes } => if oAll args.toList then some (.sc (.bi .min argTypes.toList o.type) args.toList) else none
  | .call { callee := .builtin .max, args, argTypes } => if oAll args.toList then some (.sc (.bi .max argTypes.toList o.type) args.toList) else none
  | .call { callee := .value (.func f), args, argTypes } => if oAll args.toList && fnOk P f then (if argTypes.toList.all (fun t => !isPtrF P t) then some (.call f args.toList) else some (.callh (.func f) args.toList)) else none
  | .call { callee := .value (.tmp t), args, argTypes := _ } => if oAll args.toList then some (.callh (.tmp t) args.toList) else none
  | .makeFunc (.func f) xs ys => if oAll xs.toList && oAll ys.toList then some (.clo f xs.toList ys.toList) else none
  | .makeSlice t l c => match elemOf' P t with
    | some e => match P.info? e, zeroOf P e with
      | some i, some z => if oAll [l, c] && sameO l c && z.length == i.size && decide (0 < i.size) then some (.mks e i.size i.bytes z l) else none
      | _, _ => none
    | none => none
  | .panic x => if oOk x then some (.pan x) else none
  | _ => none
end Go.Proofs.YtnjmilelifmfpaaGreatDoor.Ev

namespace Go.Proofs.YtnjmilelifmfpaaGreatDoor.Ev
open Go Go.RowKit
set_option linter.unusedSimpArgs false
set_option linter.unusedVariables false

theorem oAll_mem {l : List Operand} (h : oAll l = true) : ∀ x ∈ l, oOk x = true := by simpa [oAll] using h
theorem Cel.conv' {g : Gh} {a : AV} {v : Value} (h : Rep g a v) (ha : ∀ cs, a ≠ .agg cs) (hb : ∀ cs, a ≠ .tup cs) (hc : a ≠ .any) (hf : ∀ f xs ys, a ≠ .fn f xs ys) : Cel g a v := by
 cases h with
 | com c => cases c with
  | cel c => exact c
  | agg cs => exact absurd rfl (ha _)
  | fn xs ys => exact absurd rfl (hf _ _ _)
 | tup cs => exact absurd rfl (hb _)
 | any => exact absurd rfl hc
theorem Cel.conv {g : Gh} {a : AV} {v : Value} (h : Rep g a v) (ha : ∀ cs, a ≠ .agg cs) (hb : ∀ cs, a ≠ .tup cs) (hc : a ≠ .any) (hf : ∀ f xs ys, a ≠ .fn f xs ys := by simp) : Cel g a v := Cel.conv' h ha hb hc hf
theorem cellsA_rep {g : Gh} {a : AV} {v : Value} {cs : List AV} (h : Rep g a v) (k : cellsA a = some cs) : All2 (Cel g) cs v.cells.toList := by
 have one : ∀ {a : AV} {v : Value}, Cel g a v → All2 (Cel g) [a] v.cells.toList := fun {a v} c => by
  have h1 := c.one
  cases v <;> first|(simp [Value.oneCell'] at h1; done)|exact .cons c .nil
 cases a <;> simp only [cellsA, Option.some.injEq, reduceCtorEq] at k <;> subst k
 case agg =>
  cases h with
  | com c => cases c with
   | cel c => cases c with | pur p => cases p
   | agg cs => simpa [Value.cells] using cs
 all_goals exact one (Cel.conv h (by simp) (by simp) (by simp))
theorem scs_rep {g : Gh} {ev : Operand → AV} {ρ : Operand → Value} : ∀ {xs : List Operand} {vs : List Value}, (∀ x ∈ xs, Rep g (ev x) (ρ x)) → scs (xs.map ev) = some vs → xs.map ρ = vs
 | [], vs, _, h => by simpa [scs] using h.symm
 | x :: xs, vs, hr, h => by
  simp only [List.map_cons, scs] at h
  cases h1 : sc (ev x) with
  | none => simp [h1] at h
  | some u =>
   cases h2 : scs (xs.map ev) with
   | none => simp [h1, h2] at h
   | some l =>
    simp only [h1, h2, Option.some.injEq] at h
    subst h
    rw [List.map_cons, sc_rep (hr x (List.mem_cons_self ..)) h1, scs_rep (fun y hy => hr y (List.mem_cons_of_mem _ hy)) h2]
theorem scv_sound {P : Program} {k : Sc} {xs : List Operand} {vs : List Value} {av : AV} (h : scv P k xs vs = some av) : ∃ v, pureRun P (k.sem P xs vs) = some v ∧ av = .s v ∧ v.oneCell' = true := by
 unfold scv at h
 cases hp : pureRun P (k.sem P xs vs) with
 | none => simp [hp] at h
 | some r =>
  simp only [hp] at h
  split at h
  ·rename_i h1; cases h; exact ⟨r, rfl, rfl, h1⟩
  ·cases h
theorem rep_s {g : Gh} {v : Value} (h : v.oneCell' = true) : Rep g (.s v) v := .com (.cel (.pur (.s h)))
theorem rep_cel {g : Gh} {a : AV} {v : Value} (h : Cel g a v) : Rep g a v := .com (.cel h)
theorem toList_extract {α : Type} (l : List α) (i j : Nat) : l.toArray.extract i (i + j) = ((l.drop i).take j).toArray := by
 simp [List.extract_toArray, List.extract_eq_take_drop]
theorem cut_rep {g : Gh} {ag : Bool} {off n : Nat} {cs : List AV} {vs : List Value} {av : AV} (h : All2 (Cel g) cs vs) (k : cut ag off n cs = some av) :
  (ag = true ∧ off + n ≤ vs.length ∧ Rep g av (.agg ((vs.drop off).take n).toArray)) ∨ (ag = false ∧ ∃ v, vs[off]? = some v ∧ Cel g av v) := by
 unfold cut at k
 cases ag with
 | true =>
  simp only [if_true] at k
  split at k
  ·rename_i hle
   cases k
   exact .inl ⟨rfl, by rw [← h.length]; exact hle, .com (.agg ((h.drop off).take n))⟩
  ·cases k
 | false =>
  simp only [Bool.false_eq_true, if_false] at k
  obtain ⟨v, hv, c⟩ := h.get k
  exact .inr ⟨rfl, v, hv, c⟩
theorem run_loadVar_cells {P : Program} {t : TypeId} {ag : Bool} {n : Nat} (ha : aggOf P t = some ag) (hs : szOf P t = some n) (w : World) (b o : Nat) (vs : List Value)
  (hc : ∀ (j : Nat) (u : Value), vs[j]? = some u → w.cell? ⟨b, o + j, none⟩ = some u) :
  (ag = true → vs.length = n → (loadVar t ⟨b, o, none⟩).run P w = .ok (.agg vs.toArray) w) ∧ (ag = false → ∀ u, vs[0]? = some u → (loadVar t ⟨b, o, none⟩).run P w = .ok u w) := by
 constructor
 ·rintro rfl rfl
  have hl := run_loadCells_list (P := P) w ⟨b, o, none⟩ vs (fun j u hu => by rw [Addr.add_lit]; exact hc j u hu)
  simp [loadVar, run_isAgg ha w, run_sizeOf hs w, hl]
 ·rintro rfl u hu
  have := hc 0 u hu
  simp only [Nat.add_zero] at this
  simp [loadVar, run_isAgg ha w, this]
theorem fieldOf_spec {P : Program} {t : TypeId} {f : Nat} {ag : Bool} {off n : Nat} (h : fieldOf P t f = some (ag, off, n)) :
  ∃ fs fd, P.underlying t = some (.struct fs) ∧ fs[f]? = some fd ∧ aggOf P fd.type = some ag ∧ szOf P fd.type = some n ∧ fd.offset = off := by
 unfold fieldOf at h
 split at h
 ·rename_i fs hu
  split at h
  ·rename_i fd hf
   split at h
   ·rename_i a m h1 h2
    simp only [Option.some.injEq, Prod.mk.injEq] at h
    obtain ⟨rfl, rfl, rfl⟩ := h
    exact ⟨fs, fd, hu, hf, h1, h2, rfl⟩
   ·cases h
  ·cases h
 ·cases h
theorem elemOf_spec {P : Program} {t e : TypeId} (h : elemOf' P t = some e) : P.underlying t = some (.slice e) := by
 unfold elemOf' at h
 split at h
 ·rename_i hu; cases h; exact hu
 ·cases h
theorem isStr_spec {P : Program} {t : TypeId} (h : isStr P t = true) : P.underlying t = some .string := by
 unfold isStr at h
 split at h
 ·assumption
 ·cases h
theorem all2_of_get {S : Snap} : ∀ {cs : List AV} {vs : List Value}, vs.length = cs.length → (∀ (j : Nat) (c : AV), cs[j]? = some c → ∃ v, vs[j]? = some v ∧ Pur S c v) → All2 (Pur S) cs vs
 | [], [], _, _ => .nil
 | c :: cs, v :: vs, hl, h => by
  obtain ⟨u, hu, hp⟩ := h 0 c rfl
  simp at hu; subst hu
  exact .cons hp (all2_of_get (by simpa using hl) fun j c hj => by simpa using h (j + 1) c (by simpa using hj))
 | [], _ :: _, hl, _ => by simp at hl
 | _ :: _, [], hl, _ => by simp at hl
theorem flat_len {sz : Nat} : ∀ (xs : List (List AV)), (∀ c ∈ xs, c.length = sz) → xs.flatten.length = xs.length * sz
 | [], _ => by simp
 | c :: xs, h => by simp [h c (List.mem_cons_self ..), flat_len xs (fun c hc => h c (List.mem_cons_of_mem _ hc)), Nat.add_mul]; omega
def RoRow (S : Snap) (v : Value) (xs : List (List AV)) : Prop :=
 ((∃ A cap, v = .slice A 0 cap) ∧ xs = []) ∨ ∃ b o cap sz, v = .slice (some ⟨b, o, none⟩) xs.length cap ∧ xs.length ≤ cap ∧ (∀ c ∈ xs, c.length = sz) ∧ Rows S b o xs
def NowRow (S : Snap) (w : World) (v : Value) (xs : List (List AV)) : Prop :=
 ((∃ A cap, v = .slice A 0 cap) ∧ xs = []) ∨ ∃ b o cap vs, v = .slice (some ⟨b, o, none⟩) xs.length cap ∧ xs.length ≤ cap ∧ All2 (Pur S) xs.flatten vs ∧ ∀ (j : Nat) (u : Value), vs[j]? = some u → w.cell? ⟨b, o + j, none⟩ = some u
theorem pur_ro {S : Snap} {v : Value} {xs : List (List AV)} (p : Pur S (.row xs) v) : RoRow S v xs := by
 cases p with
 | row sz h r l m => subst l; exact .inr ⟨_, _, _, sz, rfl, m, h, r⟩
 | nil => exact .inl ⟨⟨_, _, rfl⟩, rfl⟩
theorem RoRow.now {S : Snap} {w : World} {v : Value} {xs : List (List AV)} (hA : Agr S w) (h : RoRow S v xs) : NowRow S w v xs := by
 rcases h with h | ⟨b, o, cap, sz, h1, h2, h3, h4⟩
 ·exact .inl h
 ·obtain ⟨vs, n1, n2, n3⟩ := h4.flat.vals
  exact .inr ⟨b, o, cap, vs, h1, h2, all2_of_get n1 n3, fun j u hj => hA.1 _ _ _ (n2 j u hj)⟩
section
variable {c : Cx} {fr : Nat → Prop} {g : Gh} {st : AS} {a : Act} {w : World}
theorem cel_ref {k : Nat} {v : Value} (h : Rep g (.ref k) v) : g.τ k = some v := by
 cases Cel.conv h (by simp) (by simp) (by simp) with
 | pur p => cases p
 | ref e _ => exact e
theorem nil_ro {S : Snap} {v : Value} (h : Rep g (.s (.slice none 0 0)) v) : RoRow S v [] := by
 cases Cel.conv h (by simp) (by simp) (by simp) with
 | pur p => cases p; exact .inl ⟨⟨_, _, rfl⟩, rfl⟩
theorem roOf_rep {x : AV} {v : Value} {xs : List (List AV)} (h : Rep g x v) (k : roOf x = some xs) : RoRow g.S v xs := by
 unfold roOf at k
 split at k
 ·cases k
  cases Cel.conv h (by simp) (by simp) (by simp) with
  | pur p => exact pur_ro p
 ·cases k; exact nil_ro h
 ·cases k
theorem own_now {e sz n : Nat} {v : Value} {vs : List Value} {B : Nat} {xs : List (List AV)} {S : Snap} (ho : w.ownsRow B e sz v n vs) (hn : xs.length = n) (hp : All2 (Pur S) xs.flatten vs) : NowRow S w v xs := by
 subst hn
 rcases ho.2 with ⟨h1, h2⟩ | ⟨h, cap, cur, hv, hb, hh, r1, r2, r3, r4⟩
 ·exact .inl ⟨⟨_, _, h1⟩, List.eq_nil_of_length_eq_zero h2⟩
 ·refine .inr ⟨h, 0, cap, vs, hv, r1, hp, fun j u hj => ?_⟩
  rw [Nat.zero_add, cell_of_row w h j cur e (0, 0) hh, ← Array.getElem?_toList]
  rw [← r4, List.getElem?_take] at hj
  split at hj
  ·exact hj
  ·cases hj
theorem rowOf_rep (R : Rel c fr g st a w) {x : AV} {v : Value} {xs : List (List AV)} (h : Rep g x v) (k : rowOf st.gr x = some xs) : NowRow g.S w v xs := by
 unfold rowOf at k
 split at k
 ·cases k
  cases Cel.conv h (by simp) (by simp) (by simp) with
  | pur p => exact (pur_ro p).now R.agr
 ·rename_i j
  split at k
  ·rename_i r hg
   cases k
   obtain ⟨v', e1, e2, e3, e4⟩ := R.row j _ hg
   rw [cel_ref h] at e1; cases e1
   cases hl : r.live with
   | true =>
    obtain ⟨vs, ho, hp, _⟩ := e3 hl
    exact own_now ho rfl hp
   | false => exact (pur_ro (e4 hl)).now R.agr
  ·cases k
 ·cases k; exact (nil_ro h).now R.agr
 ·cases k
end
theorem idxOf_rep {g : Gh} {a : AV} {v : Value} {j : Nat} (h : Rep g a v) (k : idxOf a = some j) : ∃ kd n, v = .int kd n ∧ 0 ≤ n ∧ n.toNat = j := by
 unfold idxOf at k
 split at k
 ·rename_i kd n
  have c := Cel.conv h (by simp) (by simp) (by simp)
  cases c with
  | pur p => cases p with
   | s _ =>
    split at k
    ·rename_i h0; cases k; exact ⟨kd, n, rfl, h0, rfl⟩
    ·cases k
 ·cases k
end Go.Proofs.YtnjmilelifmfpaaGreatDoor.Ev

namespace Go.Proofs.YtnjmilelifmfpaaGreatDoor.Ev
open Go Go.RowKit
set_option linter.unusedSimpArgs false
set_option linter.unusedVariables false

def PvOk (P : Program) (o : Oper) (g : Gh) (a : Act) (w : World) (av : AV) : Prop := ∃ v, (execOp a.eval o).run P w = .ok (.value v) w ∧ Rep g av v
section
variable {P : Program} {c : Cx} {fr : Nat → Prop} {g : Gh} {st : AS} {a : Act} {w : World} {dst : Option Tmp} {type : TypeId} {pos : String} {after : Array Edge} {guard : Option (Nat × Bool)} {av : AV}

theorem pv_mv (R : Rel c fr g st a w) {x : Operand} (hx : oOk x = true) (h : pv P st.ev st.bx st.gr (.mv x) = some av) :
  PvOk P ⟨dst, .move x, type, pos, after, guard⟩ g a w av ∧ PvOk P ⟨dst, .assign x, type, pos, after, guard⟩ g a w av := by
 simp only [pv, Option.some.injEq] at h; subst h
 exact ⟨⟨_, by simp [execOp], R.ev x hx⟩, ⟨_, by simp [execOp], R.ev x hx⟩⟩
theorem sc_bool {a : AV} {v : Value} {t : Bool} (h : Rep g a v) (k : a = .s (.bool t)) : v = .bool t := sc_rep h (by subst k; rfl)
theorem pv_pick (R : Rel c fr g st a w) {x y z : Operand} (hx : oAll [x, y, z] = true) (h : pv P st.ev st.bx st.gr (.pick x y z) = some av) : PvOk P ⟨dst, .pick x y z, type, pos, after, guard⟩ g a w av := by
 have ho := oAll_mem hx
 simp only [pv] at h
 split at h
 ·rename_i t ht
  cases h
  have e := sc_bool (R.ev x (ho x (by simp))) ht
  refine ⟨if t then a.eval y else a.eval z, by simp [execOp, e, asBool], ?_⟩
  cases t
  ·exact R.ev z (ho z (by simp))
  ·exact R.ev y (ho y (by simp))
 ·cases h
theorem pv_sc (R : Rel c fr g st a w) {k : Sc} {xs : List Operand} (hx : oAll xs = true) (h : pv P st.ev st.bx st.gr (.sc k xs) = some av) {o : Oper}
  (hs : execOp a.eval o = (do pure (.value (← k.sem P xs (xs.map a.eval))))) : PvOk P o g a w av := by
 simp only [pv] at h
 split at h
 ·rename_i vs hv
  obtain ⟨v, hp, rfl, h1⟩ := scv_sound h
  have e := scs_rep (ρ := a.eval) (fun x hm => R.ev x (oAll_mem hx x hm)) hv
  refine ⟨v, ?_, rep_s h1⟩
  rw [hs, e]
  simp [pureRun_run hp w]
 ·cases h
theorem pv_fa (R : Rel c fr g st a w) {t : TypeId} {x : Operand} {f off n : Nat} {ag : Bool} (hf : fieldOf P t f = some (ag, off, n)) (hx : oOk x = true) (hn : n ≠ 0) (h : pv P st.ev st.bx st.gr (.fa off x) = some av) :
  PvOk P ⟨dst, .fieldAddr t x f, type, pos, after, guard⟩ g a w av := by
 obtain ⟨fs, fd, hu, hfd, -, hsz, rfl⟩ := fieldOf_spec hf
 have hsn : szOf P fd.type = some n := hsz
 have go : ∀ b o, a.eval x = .pointer (some ⟨b, o, none⟩) → (execOp a.eval (⟨dst, .fieldAddr t x f, type, pos, after, guard⟩ : Oper)).run P w = .ok (.value (.pointer (some ⟨b, o + fd.offset, none⟩))) w := fun b o e => by
  simp [execOp, e, Instr.fieldAt, run_underlying hu, hfd, Instr.sureAddr, fieldPlace, run_sizeOf hsn, hn, Addr.add_lit]
 have r := R.ev x hx
 simp only [pv] at h
 split at h
 ·rename_i b o he
  cases h
  rw [he] at r
  generalize hv : a.eval x = v at r
  cases Cel.conv r (by simp) (by simp) (by simp) with
  | pur p => cases p
  | ptr hi => exact ⟨_, go _ _ hv, rep_cel (.ptr hi)⟩
 ·rename_i cs o he
  cases h
  rw [he] at r
  generalize hv : a.eval x = v at r
  cases Cel.conv r (by simp) (by simp) (by simp) with
  | pur p => cases p
  | elt hi => exact ⟨_, go _ _ hv, by rw [Nat.add_assoc]; exact rep_cel (.elt hi)⟩
 ·rename_i k sz i o he
  cases h
  rw [he] at r
  generalize hv : a.eval x = v at r
  cases Cel.conv r (by simp) (by simp) (by simp) with
  | pur p => cases p
  | rptr hi => exact ⟨_, go _ _ hv, by rw [Nat.add_assoc]; exact rep_cel (.rptr hi)⟩
 ·cases h
theorem pv_nc (R : Rel c fr g st a w) {x : Operand} (hx : oOk x = true) (h : pv P st.ev st.bx st.gr (.nc x) = some av) : PvOk P ⟨dst, .nilCheck x, type, pos, after, guard⟩ g a w av := by
 have r := R.ev x hx
 have go : ∀ p, a.eval x = .pointer (some p) → (execOp a.eval (⟨dst, .nilCheck x, type, pos, after, guard⟩ : Oper)).run P w = .ok (.value (.pointer (some p))) w := fun p e => by
  simp [execOp, e]
 simp only [pv] at h
 split at h
 ·rename_i b o he
  cases h
  rw [he] at r
  generalize hv : a.eval x = v at r
  cases Cel.conv r (by simp) (by simp) (by simp) with
  | pur p => cases p
  | ptr hi => exact ⟨_, go _ hv, rep_cel (.ptr hi)⟩
 ·rename_i cs o he
  cases h
  rw [he] at r
  generalize hv : a.eval x = v at r
  cases Cel.conv r (by simp) (by simp) (by simp) with
  | pur p => cases p
  | elt hi => exact ⟨_, go _ hv, rep_cel (.elt hi)⟩
 ·rename_i k sz i o he
  cases h
  rw [he] at r
  generalize hv : a.eval x = v at r
  cases Cel.conv r (by simp) (by simp) (by simp) with
  | pur p => cases p
  | rptr hi => exact ⟨_, go _ hv, rep_cel (.rptr hi)⟩
 ·cases h
theorem pv_fd (R : Rel c fr g st a w) {t : TypeId} {x : Operand} {f off n : Nat} {ag : Bool} (hf : fieldOf P t f = some (ag, off, n)) (hx : oOk x = true) (h : pv P st.ev st.bx st.gr (.fd ag off n x) = some av) :
  PvOk P ⟨dst, .field t x f, type, pos, after, guard⟩ g a w av := by
 obtain ⟨fs, fd, hu, hfd, hag, hsz, rfl⟩ := fieldOf_spec hf
 have r := R.ev x hx
 simp only [pv] at h
 split at h
 ·rename_i cs he
  rw [he] at r
  generalize hv : a.eval x = v at r
  cases r with
  | com cc => cases cc with
   | cel cc => cases cc with | pur p => cases p
   | agg hc =>
    rename_i vs
    rcases cut_rep hc h with ⟨rfl, hle, rp⟩ | ⟨rfl, u, hu', cl⟩
    ·exact ⟨_, by simp [execOp, hv, Instr.field, run_underlying hu, hfd, asAgg, part, run_isAgg hag, run_sizeOf hsz, toList_extract], rp⟩
    ·refine ⟨u, ?_, rep_cel cl⟩
     simp [execOp, hv, Instr.field, run_underlying hu, hfd, asAgg, part, run_isAgg hag, hu']
 ·cases h
theorem pv_ia (R : Rel c fr g st a w) {t e : TypeId} {x i : Operand} {sz : Nat} (he : elemOf' P t = some e) (hs : szOf P e = some sz) (hx : oAll [x, i] = true) (h : pv P st.ev st.bx st.gr (.ia sz x i) = some av) :
  PvOk P ⟨dst, .indexAddr t x i, type, pos, after, guard⟩ g a w av := by
 have ho := oAll_mem hx
 have hu := elemOf_spec he
 have r := R.ev x (ho x (by simp))
 have go : ∀ (b o len cap : Nat) (kd : IntKind) (n : Int), a.eval x = .slice (some ⟨b, o, none⟩) len cap → a.eval i = .int kd n → 0 ≤ n → n.toNat < len →
   (execOp a.eval (⟨dst, .indexAddr t x i, type, pos, after, guard⟩ : Oper)).run P w = .ok (.value (.pointer (some ⟨b, o + n.toNat * sz, none⟩))) w := fun b o len cap kd n hvx hv h0 hlt => by
  have hn : n < (len : Int) := by omega
  simp [execOp, hvx, hv, Instr.indexAt, asIntOf, run_underlying hu, h0, hn, run_sizeOf hs, Addr.add_lit]
 simp only [pv] at h
 split at h
 ·rename_i k hk
  split at h
  ·rename_i rr j hg hi'
   split at h
   ·rename_i hc
    cases h
    obtain ⟨kd, n, hv, h0, rfl⟩ := idxOf_rep (R.ev i (ho i (by simp))) hi'
    rw [hk] at r
    have hτ := cel_ref r
    obtain ⟨v', e1, e2, e3, e4⟩ := R.row k _ hg
    rw [hτ] at e1; cases e1
    have hblk : ∃ b cap, a.eval x = .slice (some ⟨b, 0, none⟩) rr.xs.length cap := by
     have hlen : ∀ b n cap, a.eval x = .slice b n cap → n = rr.xs.length := fun b n cap he => by
      cases hl : rr.live with
      | true =>
       obtain ⟨vs, ho', _⟩ := e3 hl
       rcases ho'.2 with ⟨q1, q2⟩ | ⟨h, cap', cur, q1, _⟩
       ·rw [q1] at he; cases he; omega
       ·rw [q1] at he; cases he; rfl
      | false =>
       rcases pur_ro (e4 hl) with ⟨⟨A0, c0, q⟩, hx⟩ | ⟨b', o', cap', sz', q, _⟩
       ·rw [q] at he; cases he; rw [hx]; rfl
       ·rw [q] at he; cases he; rfl
     rcases e2.2 with q | ⟨b, n, cap, q⟩
     ·have := hlen _ _ _ q; omega
     ·exact ⟨b, cap, by rw [← hlen _ _ _ q]; exact q⟩
    obtain ⟨b, cap, hvx⟩ := hblk
    refine ⟨_, go b 0 _ cap kd n hvx hv h0 hc.1, ?_⟩
    rw [hvx] at hτ
    rw [Nat.zero_add]
    exact rep_cel (.rptr (off := 0) hτ)
   ·cases h
  ·cases h
 ·rename_i xs hxs
  split at h
  ·rename_i j hi'
   obtain ⟨kd, n, hv, h0, rfl⟩ := idxOf_rep (R.ev i (ho i (by simp))) hi'
   split at h
   ·rename_i cl hc
    split at h
    ·rename_i hl
     cases h
     have hlt : n.toNat < xs.length := (List.getElem?_eq_some_iff.1 hc).1
     rw [hxs] at r
     have hro : RoRow g.S (a.eval x) xs := by
      cases Cel.conv r (by simp) (by simp) (by simp) with
      | pur p => exact pur_ro p
     rcases hro with ⟨_, rfl⟩ | ⟨b, o, cap, sz', hvx, hle, hk, hr⟩
     ·simp at hc
     ·have hsz : sz' = sz := by rw [← hl, hk cl (List.mem_of_getElem? hc)]
      subst hsz
      exact ⟨_, go b o _ cap kd n hvx hv h0 hlt, rep_cel (Cel.elt (g := g) (off := 0) (hr.get hk hc))⟩
    ·cases h
   ·cases h
  ·cases h
 ·cases h
theorem pv_ex (R : Rel c fr g st a w) {x : Operand} {i : Nat} (hx : oOk x = true) (h : pv P st.ev st.bx st.gr (.ex x i) = some av) : PvOk P ⟨dst, .extract x i, type, pos, after, guard⟩ g a w av := by
 have r := R.ev x hx
 simp only [pv] at h
 split at h
 ·rename_i vs he
  rw [he] at r
  generalize hv : a.eval x = v at r
  cases r with
  | com cc => cases cc with
   | cel cc => cases cc with | pur p => cases p
  | tup hc =>
   obtain ⟨u, hu, cm⟩ := hc.get h
   exact ⟨u, by simp [execOp, hv, Instr.extract, hu], .com cm⟩
 ·cases h
theorem pv_ln (R : Rel c fr g st a w) {x : Operand} {t e : TypeId} {cl : Callee} (he : elemOf' P t = some e) (hx : oOk x = true) (h : pv P st.ev st.bx st.gr (.ln x) = some av) :
  PvOk P ⟨dst, .call { callee := .builtin .len, args := #[x], argTypes := #[t] }, type, pos, after, guard⟩ g a w av := by
 have hu := elemOf_spec he
 have r := R.ev x hx
 have go : ∀ b n cap, a.eval x = .slice b n cap → (execOp a.eval (⟨dst, .call { callee := .builtin .len, args := #[x], argTypes := #[t] }, type, pos, after, guard⟩ : Oper)).run P w = .ok (.value (.int .i64 n)) w := fun b n cap e => by
  simp [execOp, resolve, invoke, builtin, Builtin.len_, run_underlying hu, e, goInt]
 simp only [pv] at h
 split at h
 ·rename_i xs hxs
  cases h
  rcases rowOf_rep R r hxs with ⟨⟨A0, c0, hv⟩, rfl⟩ | ⟨b, o, cap, vs, hvx, -⟩
  ·exact ⟨_, go _ _ _ hv, rep_s rfl⟩
  ·exact ⟨_, go _ _ _ hvx, rep_s rfl⟩
 ·cases h
theorem cells1_rep {ev : Operand → AV} {ρ : Operand → Value} : ∀ {xs : List Operand} {l : List AV}, (∀ x ∈ xs, Rep g (ev x) (ρ x)) → cells1 (xs.map ev) = some l → All2 (Cel g) l (xs.map ρ)
 | [], l, _, h => by simp only [List.map_nil, cells1, Option.some.injEq] at h; subst h; exact .nil
 | x :: xs, l, hr, h => by
  simp only [List.map_cons, cells1] at h
  split at h
  ·rename_i l' h1 h2
   cases h
   refine .cons (Cel.conv (hr x (List.mem_cons_self ..)) ?_ ?_ ?_ ?_) (cells1_rep (fun y hy => hr y (List.mem_cons_of_mem _ hy)) h2)
   ·intro cs e; rw [e] at h1; cases h1
   ·intro cs e; rw [e] at h1; cases h1
   ·intro e; rw [e] at h1; cases h1
   ·intro f xs ys e; rw [e] at h1; cases h1
  ·cases h
theorem pv_clo (R : Rel c fr g st a w) {f : FuncId} {xs ys : Array Operand} (hx : oAll xs.toList = true) (hy : oAll ys.toList = true) (h : pv P st.ev st.bx st.gr (.clo f xs.toList ys.toList) = some av) : PvOk P ⟨dst, .makeFunc (.func f) xs ys, type, pos, after, guard⟩ g a w av := by
 simp only [pv] at h
 split at h
 ·rename_i l m h1 h2
  cases h
  have e1 := cells1_rep (ρ := a.eval) (fun x hm => R.ev x (oAll_mem hx x hm)) h1
  have e2 := cells1_rep (ρ := a.eval) (fun x hm => R.ev x (oAll_mem hy x hm)) h2
  refine ⟨.func (.func f) (xs.map a.eval) (ys.map a.eval), by simp [execOp, Instr.makeFunc], ?_⟩
  have := Rep.com (Com.fn (f := f) e1 e2)
  rwa [← Array.toList_map, ← Array.toList_map, Array.toArray_toList, Array.toArray_toList] at this
 ·cases h
end
end Go.Proofs.YtnjmilelifmfpaaGreatDoor.Ev

namespace Go.Proofs.YtnjmilelifmfpaaGreatDoor.Ev
open Go Go.RowKit
set_option linter.unusedSimpArgs false
set_option linter.unusedVariables false

theorem All2.put {g : Gh} {cs : List AV} {vs : List Value} {new : List AV} {nv : List Value} (h : All2 (Cel g) cs vs) (k : All2 (Cel g) new nv) (off : Nat) :
  All2 (Cel g) (put1 cs off new) (vs.take off ++ nv ++ vs.drop (off + nv.length)) := by
 unfold put1
 rw [k.length]
 exact ((h.take off).append k).append (h.drop _)
theorem foldl_set_list (off : Nat) (l : List Value) (cs : List Value) (h : off + l.length ≤ cs.length) :
  ((l.zipIdx 0).foldl (fun cs (x : Value × Nat) => cs.setIfInBounds (off + x.2) x.1) cs.toArray) = (cs.take off ++ l ++ cs.drop (off + l.length)).toArray := by
 obtain ⟨h1, h2⟩ := Great.foldl_set off l 0 cs.toArray
 apply Array.ext_getElem?
 intro k
 rw [h2 k]
 simp only [Nat.add_zero, List.size_toArray, List.getElem?_toArray]
 by_cases ha : k < off
 ·rw [if_neg (by omega), List.append_assoc, List.getElem?_append_left (by simp; omega), List.getElem?_take_of_lt ha]
 ·by_cases hb : k < off + l.length
  ·rw [if_pos (by omega), List.getElem?_append_left (by simp; omega), List.getElem?_append_right (by simp; omega)]
   congr 1; simp; omega
  ·rw [if_neg (by omega), List.getElem?_append_right (by simp; omega), List.getElem?_drop]
   congr 1; simp; omega
theorem mapAt {α β : Type} {f : α → Option β} : ∀ {l : List α} {r : List β}, l.mapM f = some r → ∀ (i : Nat) (a : α), l[i]? = some a → ∃ b, r[i]? = some b ∧ f a = some b
 | [], _, _, i, a, h => by simp at h
 | x :: l, r, hm, i, a, h => by
  simp only [List.mapM_cons, Option.bind_eq_bind, Option.pure_def, Option.bind_eq_some_iff, Option.some.injEq] at hm
  obtain ⟨b, hb, l', hl', rfl⟩ := hm
  cases i with
  | zero => simp at h; subst h; exact ⟨b, rfl, hb⟩
  | succ i => simpa using mapAt hl' i a (by simpa using h)
theorem bld_rep {P : Program} {g : Gh} {t : TypeId} {places : List (Nat × Nat)} {fs : Array Field} (hu : P.underlying t = some (.struct fs))
  (hp : fs.toList.mapM (fun f => (P.info? f.type).map fun i => (f.offset, i.size)) = some places) {ev : Operand → AV} {ρ : Operand → Value} :
  ∀ {ps : List (Nat × Operand)} {l : List (Nat × Nat × Operand)} {cs : List AV} {vs : List Value} {out : List AV}, (∀ p ∈ ps, Rep g (ev p.2) (ρ p.2)) → bldParts P t ps = some l → All2 (Cel g) cs vs →
   fillA cs (l.map fun p => (p.1, p.2.1, ev p.2.2)) = some out → ∃ r, Instr.fill (places.toArray[·]?) vs.toArray (ps.map fun p => (p.1, ρ p.2)) = some r ∧ All2 (Cel g) out r.toList
 | [], l, cs, vs, out, _, hb, hc, hf => by
  simp only [bldParts, Option.some.injEq] at hb
  subst hb
  simp only [List.map_nil, fillA, Option.some.injEq] at hf
  subst hf
  exact ⟨_, rfl, by simpa using hc⟩
 | (i, x) :: ps, l, cs, vs, out, hr, hb, hc, hf => by
  simp only [bldParts] at hb
  split at hb
  ·rename_i ag off n l' hfo hb'
   cases hb
   obtain ⟨fs', fd, hu', hfd, -, hsz, rfl⟩ := fieldOf_spec hfo
   rw [hu] at hu'; cases hu'
   simp only [List.map_cons, fillA] at hf
   split at hf
   ·rename_i new hn
    split at hf
    ·rename_i hle
     have hnew := cellsA_rep (hr (i, x) (List.mem_cons_self ..)) hn
     have hplace : (places.toArray[i]? : Option (Nat × Nat)) = some (fd.offset, n) := by
      rw [List.getElem?_toArray]
      obtain ⟨b, hb, he⟩ := mapAt hp i fd (by simpa using hfd)
      rw [hb]
      unfold szOf at hsz
      cases hi : P.info? fd.type with
      | none => simp [hi] at hsz
      | some q => simp [hi] at hsz he; rw [← he, hsz]
     have hlen := hnew.length
     have hcl := hc.length
     obtain ⟨r, hr1, hr2⟩ := bld_rep hu hp (fun p hp => hr p (List.mem_cons_of_mem _ hp)) hb' (hc.put hnew fd.offset) hf
     refine ⟨r, ?_, hr2⟩
     simp only [List.map_cons, Instr.fill, hplace]
     have hsz1 : (ρ x).cells.size = n := by rw [← Array.length_toList, ← hlen]; exact hle.1
     rw [if_neg (by simp only [List.size_toArray, hsz1]; simp; omega), ← hr1]
     congr 1
     rw [← Array.foldl_toList, Array.toList_zipIdx]
     exact foldl_set_list _ _ _ (by simp only [Array.length_toList]; omega)
    ·cases hf
   ·cases hf
  ·cases hb
theorem mapM_places {P : Program} : ∀ (fs : List Field), (fs.all fun f => (szOf P f.type).isSome) = true → ∃ places, fs.mapM (fun f => (P.info? f.type).map fun i => (f.offset, i.size)) = some places
 | [], _ => ⟨[], rfl⟩
 | f :: fs, h => by
  simp only [List.all_cons, Bool.and_eq_true] at h
  obtain ⟨l, hl⟩ := mapM_places fs h.2
  obtain ⟨n, hn⟩ := Option.isSome_iff_exists.1 h.1
  unfold szOf at hn
  cases hi : P.info? f.type with
  | none => simp [hi] at hn
  | some i => exact ⟨(f.offset, i.size) :: l, by simp [List.mapM_cons, hi, hl]⟩
theorem zeroOf_spec {P : Program} {t : TypeId} {z : List Value} (h : zeroOf P t = some z) : ∃ (i : TypeInfo) (v : Value), P.info? t = some i ∧ i.zero = some v ∧ v.cells.toList = z ∧ z.all Value.oneCell' = true := by
 unfold zeroOf at h
 cases hi : P.info? t with
 | none => simp [hi] at h
 | some i =>
  simp only [hi] at h
  cases hz : i.zero with
  | none => simp [hz] at h
  | some v =>
   simp only [hz] at h
   split at h
   ·rename_i hall; cases h; exact ⟨i, v, rfl, hz, rfl, hall⟩
   ·cases h
section
variable {P : Program} {c : Cx} {fr : Nat → Prop} {g : Gh} {st : AS} {a : Act} {w : World} {dst : Option Tmp} {type : TypeId} {pos : String} {after : Array Edge} {guard : Option (Nat × Bool)} {av : AV}
theorem pv_bld (R : Rel c fr g st a w) {t : TypeId} {ps : Array (Nat × Operand)} {z : List Value} {l : List (Nat × Nat × Operand)} (hz : zeroOf P t = some z) (hl : bldParts P t ps.toList = some l)
  (ho : oAll (ps.toList.map (·.2)) = true) (hk : fieldsOk P t = true) (h : pv P st.ev st.bx st.gr (.bld z l) = some av) : PvOk P ⟨dst, .build t ps, type, pos, after, guard⟩ g a w av := by
 obtain ⟨i, zv, hi, hiz, rfl, hone⟩ := zeroOf_spec hz
 unfold fieldsOk at hk
 split at hk
 ·rename_i fs hu
  obtain ⟨places, hp⟩ := mapM_places fs.toList hk
  simp only [pv, Option.map_eq_some_iff] at h
  obtain ⟨out, hf, rfl⟩ := h
  obtain ⟨r, h1, h2⟩ := bld_rep (ρ := a.eval) hu hp (fun p hm => R.ev p.2 (oAll_mem ho _ (List.mem_map_of_mem hm))) hl (all2_s (g := g) _ hone) hf
  refine ⟨.agg r, ?_, ?_⟩
  ·have hb : P.built t (ps.map fun (i, x) => (i, a.eval x)).toList = some r := by
    unfold Program.built
    simp only [hi, hu, hiz, hp]
    rw [← h1]
    congr 1
    simp
   simp [execOp, run_build w t _ r hb]
  ·have := Com.agg h2
   simp only [Array.toArray_toList] at this
   exact .com this
 ·cases hk
theorem pv_rs (R : Rel c fr g st a w) {t e : TypeId} {x : Operand} {lo hi : Option Operand} {sz : Nat} (he : elemOf' P t = some e) (hs : szOf P e = some sz) (hx : oAll ([x] ++ lo.toList ++ hi.toList) = true)
  (h : pv P st.ev st.bx st.gr (.rs sz x lo hi) = some av) : PvOk P ⟨dst, .slice t x lo hi none, type, pos, after, guard⟩ g a w av := by
 have ho := oAll_mem hx
 have hu := elemOf_spec he
 simp only [pv] at h
 split at h
 ·rename_i xs hxs
  split at h
  ·rename_i l hh hl' hh'
   split at h
   ·rename_i hcond
    cases h
    obtain ⟨hlh, hhn, hall⟩ := hcond
    have key : ∀ (b : Option Addr) (n cap : Nat), a.eval x = .slice b n cap → n = xs.length → n ≤ cap →
      (execOp a.eval (⟨dst, .slice t x lo hi none, type, pos, after, guard⟩ : Oper)).run P w = .ok (.value (.slice (if cap = l then b else b.map (·.add (l * sz))) (hh - l) (cap - l))) w := fun b n cap hb hn hc => by
     cases hi with
     | none =>
      simp only [Option.some.injEq] at hh'
      subst hh' hn
      cases lo with
      | none =>
       simp only [Option.some.injEq] at hl'
       subst hl'
       simp [execOp, hb, Instr.sliceAt, run_underlying hu, Instr.slice, Instr.sliceBounds, run_sizeOf hs]
      | some y =>
       obtain ⟨kd, n, hv, h0, rfl⟩ := idxOf_rep (R.ev y (ho y (by simp))) hl'
       have hb1 := run_sliceBound (P := P) w kd n xs.length .sliceB h0 (by omega)
       simp [execOp, hb, hv, Instr.sliceAt, run_underlying hu, Instr.slice, Instr.sliceBounds, run_sizeOf hs, hb1]
     | some z =>
      obtain ⟨kd', m, hv', h0', rfl⟩ := idxOf_rep (R.ev z (ho z (by simp))) hh'
      have hb2 := run_sliceBound (P := P) w kd' m cap .sliceAcap h0' (by omega)
      cases lo with
      | none =>
       simp only [Option.some.injEq] at hl'
       subst hl'
       simp [execOp, hb, hv', Instr.sliceAt, run_underlying hu, Instr.slice, Instr.sliceBounds, run_sizeOf hs, hb2]
      | some y =>
       obtain ⟨kd, n, hv, h0, rfl⟩ := idxOf_rep (R.ev y (ho y (by simp))) hl'
       have hb1 := run_sliceBound (P := P) w kd n m.toNat .sliceB h0 (by omega)
       simp [execOp, hb, hv, hv', Instr.sliceAt, run_underlying hu, Instr.slice, Instr.sliceBounds, run_sizeOf hs, hb1, hb2]
    rcases roOf_rep (R.ev x (ho x (by simp))) hxs with ⟨⟨A0, c0, hv⟩, rfl⟩ | ⟨b, o, cap, sz', hv, hle, hk, hr⟩
    ·have h0 : hh = 0 := by simp at hhn; exact hhn
     subst h0
     have hl0 : l = 0 := by omega
     subst hl0
     exact ⟨_, key _ _ _ hv rfl (Nat.zero_le _), by simpa using rep_cel (.pur (.nil (S := g.S)))⟩
    ·refine ⟨_, key _ _ _ hv rfl hle, ?_⟩
     have hall' : ∀ c ∈ xs, c.length = sz := by simpa using hall
     by_cases hcl : cap = l
     ·rw [if_pos hcl]
      have hhl : hh = l := by omega
      subst hhl
      have hnil : (xs.take hh).drop hh = [] := by simp
      rw [hnil, Nat.sub_self]
      exact rep_cel (.pur (.row sz (by simp) .nil rfl (Nat.zero_le _)))
     ·rw [if_neg hcl]
      have hd := Rows.drop (fun c hc => hall' c (List.mem_of_mem_take hc)) (hr.take hh) l (by simp; omega)
      simp only [Option.map_some, Addr.add_lit]
      exact rep_cel (.pur (.row sz (fun c hc => hall' c (List.mem_of_mem_take (List.mem_of_mem_drop hc))) hd (by simp; omega) (by omega)))
   ·cases h
  ·cases h
 ·cases h
theorem pv_ld (R : Rel c fr g st a w) {t : TypeId} {x : Operand} {n : Nat} {ag : Bool} (ha : aggOf P t = some ag) (hs : szOf P t = some n) (hx : oOk x = true) (h : pv P st.ev st.bx st.gr (.ld ag n x) = some av) :
  PvOk P ⟨dst, .load t x, type, pos, after, guard⟩ g a w av := by
 have r := R.ev x hx
 have go : ∀ (b o : Nat) (vs : List Value) (cs : List AV), a.eval x = .pointer (some ⟨b, o, none⟩) → (∀ (j : Nat) (u : Value), vs[j]? = some u → w.cell? ⟨b, j, none⟩ = some u) → All2 (Cel g) cs vs → cut ag o n cs = some av →
   PvOk P ⟨dst, .load t x, type, pos, after, guard⟩ g a w av := fun b o vs cs hv hc h2 hcut => by
  rcases cut_rep h2 hcut with ⟨rfl, hle, rp⟩ | ⟨rfl, u, hu', cl⟩
  ·have := (run_loadVar_cells ha hs w b o ((vs.drop o).take n) (fun j u hu => by
    rw [List.getElem?_take] at hu
    split at hu
    ·rw [List.getElem?_drop] at hu; exact hc _ _ hu
    ·cases hu)).1 rfl (by simp; omega)
   exact ⟨_, by simp [execOp, hv, Instr.loadAt, Instr.sureAddr, this], rp⟩
  ·have := (run_loadVar_cells ha hs w b o (vs.drop o) (fun j u hu => by rw [List.getElem?_drop] at hu; exact hc _ _ hu)).2 rfl u (by simpa using hu')
   exact ⟨_, by simp [execOp, hv, Instr.loadAt, Instr.sureAddr, this], rep_cel cl⟩
 simp only [pv] at h
 split at h
 ·rename_i b o he
  split at h
  ·rename_i cs hb
   obtain ⟨hblk, vs, T, hi, -, hheap, hall, -⟩ := R.box b cs hb
   rw [he] at r
   generalize hv : a.eval x = v at r
   cases Cel.conv r (by simp) (by simp) (by simp) with
   | pur p => cases p
   | ptr hi' =>
    rw [hi] at hi'; cases hi'
    exact go _ _ vs.toList cs hv (fun j u hu => by rw [cell_of_row w _ j vs T (0, 0) hheap]; simpa using hu) hall h
  ·cases h
 ·rename_i cs o he
  rw [he] at r
  generalize hv : a.eval x = v at r
  cases Cel.conv r (by simp) (by simp) (by simp) with
  | pur p => cases p
  | elt hcells =>
   rename_i b o'
   obtain ⟨vs, h1, h2, h3⟩ := hcells.vals
   have hall : All2 (Cel g) cs vs := by
    clear h r hv he
    induction cs generalizing o' vs with
    | nil => simp at h1; subst h1; exact .nil
    | cons c0 cs ih =>
     cases vs with
     | nil => simp at h1
     | cons v0 vs =>
      cases hcells with
      | cons hS hp hr =>
       obtain ⟨u, hu, hp'⟩ := h3 0 c0 rfl
       simp at hu; subst hu
       exact .cons (.pur hp') (ih hr vs (by simpa using h1) (fun j v hj => by rw [show o' + 1 + j = o' + (j + 1) by omega]; exact h2 (j + 1) v (by simpa using hj)) (fun j c hj => by simpa using h3 (j + 1) c (by simpa using hj)))
   rcases cut_rep hall h with ⟨rfl, hle, rp⟩ | ⟨rfl, u, hu', cl⟩
   ·have := (run_loadVar_cells ha hs w b (o' + o) ((vs.drop o).take n) (fun j u hu => by
     rw [List.getElem?_take] at hu
     split at hu
     ·rw [List.getElem?_drop] at hu; rw [Nat.add_assoc]; exact R.agr.1 _ _ _ (h2 _ _ hu)
     ·cases hu)).1 rfl (by simp; omega)
    exact ⟨_, by simp [execOp, hv, Instr.loadAt, Instr.sureAddr, this], rp⟩
   ·have := (run_loadVar_cells ha hs w b (o' + o) (vs.drop o) (fun j u hu => by rw [List.getElem?_drop] at hu; rw [Nat.add_assoc]; exact R.agr.1 _ _ _ (h2 _ _ hu))).2 rfl u (by simpa using hu')
    exact ⟨_, by simp [execOp, hv, Instr.loadAt, Instr.sureAddr, this], rep_cel cl⟩
 ·rename_i k sz i o he
  split at h
  ·rename_i rr hg
   split at h
   ·rename_i cs hcs
    split at h
    ·rename_i hsz
     subst hsz
     rw [he] at r
     generalize hv : a.eval x = v at r
     obtain ⟨v', e1, ⟨e2, _⟩, e3, e4⟩ := R.row k _ hg
     cases Cel.conv r (by simp) (by simp) (by simp) with
     | pur p => cases p
     | rptr hτ =>
      rename_i b n cap
      rw [hτ] at e1; cases e1
      have hnow : NowRow g.S w (.slice (some ⟨b, 0, none⟩) n cap) rr.xs := by
       cases hl : rr.live with
       | true => obtain ⟨vs, ho, hp, _⟩ := e3 hl; exact own_now ho rfl hp
       | false => exact (pur_ro (e4 hl)).now R.agr
      rcases hnow with ⟨_, hx0⟩ | ⟨b', o', cap', vs, q, _, hp, hcell⟩
      ·rw [hx0] at hcs; simp at hcs
      ·cases q
       have hi : i < rr.xs.length := (List.getElem?_eq_some_iff.1 hcs).1
       have hpart : All2 (Cel g) cs ((vs.drop (i * rr.sz)).take rr.sz) := by
        have hd : cs = (rr.xs.flatten.drop (i * rr.sz)).take rr.sz := by
         have : ∀ (xs : List (List AV)) (i : Nat), (∀ c ∈ xs, c.length = rr.sz) → xs[i]? = some cs → cs = (xs.flatten.drop (i * rr.sz)).take rr.sz := fun xs => by
          induction xs with
          | nil => intro i _ h; simp at h
          | cons c xs ih =>
           intro i hk h
           have hc := hk c (List.mem_cons_self ..)
           cases i with
           | zero => simp at h; subst h; simp [← hc]
           | succ i =>
            rw [List.flatten_cons, show (i + 1) * rr.sz = c.length + i * rr.sz by rw [hc, Nat.add_mul]; omega, List.drop_length_add_append]
            exact ih i (fun c hc => hk c (List.mem_cons_of_mem _ hc)) (by simpa using h)
         exact this rr.xs i e2 hcs
        have h2 := (hp.drop (i * rr.sz)).take rr.sz
        rw [← hd] at h2
        exact h2.imp fun _ _ p => .pur p
       rcases cut_rep hpart h with ⟨rfl, hle, rp⟩ | ⟨rfl, u, hu', cl⟩
       ·have := (run_loadVar_cells ha hs w b (i * rr.sz + o) ((((vs.drop (i * rr.sz)).take rr.sz).drop o).take n) (fun j u hu => by
         rw [List.getElem?_take] at hu
         split at hu
         ·rw [List.getElem?_drop, List.getElem?_take] at hu
          split at hu
          ·rw [List.getElem?_drop] at hu
           have := hcell _ _ hu
           rwa [Nat.zero_add, ← Nat.add_assoc] at this
          ·cases hu
         ·cases hu)).1 rfl (by rw [List.length_take, List.length_drop]; omega)
        exact ⟨_, by simp [execOp, hv, Instr.loadAt, Instr.sureAddr, this], rp⟩
       ·have := (run_loadVar_cells ha hs w b (i * rr.sz + o) (((vs.drop (i * rr.sz)).take rr.sz).drop o) (fun j u hu => by
         rw [List.getElem?_drop, List.getElem?_take] at hu
         split at hu
         ·rw [List.getElem?_drop] at hu
          have := hcell _ _ hu
          rwa [Nat.zero_add, ← Nat.add_assoc] at this
         ·cases hu)).2 rfl u (by simpa using hu')
        exact ⟨_, by simp [execOp, hv, Instr.loadAt, Instr.sureAddr, this], rep_cel cl⟩
    ·cases h
   ·cases h
  ·cases h
 ·cases h
end
end Go.Proofs.YtnjmilelifmfpaaGreatDoor.Ev

namespace Go.Proofs.YtnjmilelifmfpaaGreatDoor.Ev
open Go Go.RowKit
set_option linter.unusedSimpArgs false
set_option linter.unusedVariables false

theorem lt_of_heap {w : World} {h : Nat} {o : Obj} (e : w.heap[h]? = some o) : h < w.heap.size := (Array.getElem?_eq_some_iff.1 e).1
section
variable {c : Cx} {fr : Nat → Prop} {g : Gh} {st : AS} {a : Act} {w : World}
theorem Rel.owned (R : Rel c fr g st a w) {x : Bool × Nat} {h : Nat} (o : Owns st g x h) : h < w.heap.size ∧ (c.w0.heap.size ≤ h ∨ h ∈ c.gs) := by
 obtain ⟨b, i⟩ := x
 cases b with
 | true =>
  obtain ⟨h1, h2⟩ := o
  cases hb : st.bx i with
  | none => exact absurd hb h1
  | some cs =>
   obtain ⟨h', vs, T, e, k, hh, -, -⟩ := R.box i cs hb
   rw [h2] at e; cases e
   exact ⟨lt_of_heap hh, k⟩
 | false =>
  obtain ⟨h1, v, h2, h3⟩ := o
  obtain ⟨r, hr, hl⟩ := h1
  obtain ⟨v', e, _, e3, _⟩ := R.row i r hr
  rw [h2] at e; cases e
  obtain ⟨vs, ho, _⟩ := e3 hl
  have := ho.lt _ h3
  exact ⟨this.2, .inl this.1⟩
theorem Rel.put (R : Rel c fr g st a w) {d : Option Nat} {av : AV} {v : Value} (hd : ∀ i, d = some i → i < c.n) (r : Rep g av v) : Rel c fr g (st.put d av) (a.put d v) w := by
 cases d with
 | none => exact R
 | some i =>
  have hi := hd i rfl
  refine ⟨by simp [Act.put, R.size], by simp [Act.put, R.defers], R.keep, R.sle, R.old, R.agr, fun j => ?_, R.box, R.row, R.inj, R.free, R.hand⟩
  simp only [AS.put, Act.put]
  by_cases hj : j = i
  ·subst hj
   rw [if_pos rfl]
   have : (a.tmps.setIfInBounds j v).getD j undef = v := by simp [R.size, hi]
   rw [this]
   exact r
  ·rw [if_neg hj]
   have : (a.tmps.setIfInBounds i v).getD j undef = a.tmps.getD j undef := by
    simp [Array.getElem?_setIfInBounds_ne (Ne.symm hj)]
   rw [this]
   exact R.tmp j
theorem Rel.world (R : Rel c fr g st a w) {w' : World} (hk : Keep c.w0.heap.size c.gs w w') (hagr : Agr g.S w') (ho : ∀ x h, Owns st g x h → w'.heap[h]? = w.heap[h]?) : Rel c fr g st a w' := by
 refine ⟨R.size, R.defers, R.keep.trans hk, R.sle, R.old, hagr, R.tmp, fun b cs hb => ?_, fun k r hl => ?_, R.inj, R.free, R.hand⟩
 ·obtain ⟨h, vs, T, e, k, hh, r⟩ := R.box b cs hb
  exact ⟨h, vs, T, e, k, by rw [ho (true, b) h ⟨by simp [hb], e⟩]; exact hh, r⟩
 ·obtain ⟨v, e1, e2, e3, e4⟩ := R.row k r hl
  refine ⟨v, e1, e2, fun hv => ?_, e4⟩
  obtain ⟨vs, hown, q⟩ := e3 hv
  refine ⟨vs, ⟨hown.1, ?_⟩, q⟩
  rcases hown.2 with h | ⟨h, cap, cur, hv', hb, hh, r'⟩
  ·exact .inl h
  ·exact .inr ⟨h, cap, cur, hv', hb, by rw [ho (false, k) h ⟨⟨r, hl, hv⟩, v, e1, by rw [hv']; rfl⟩]; exact hh, r'⟩
theorem Agr.below {S : Snap} {w w' : World} (h : Agr S w) (k : Below w.heap.size w w') : Agr S w' := ⟨fun b o v e => by
 have := h.1 b o v e
 rw [k.cell (World.block_lt_of_cell? w _ this)]
 exact this, fun b o v o' v' e e' => by
 have hlt := World.block_lt_of_cell? w _ (h.1 b o v e)
 rw [k.cell (p := ⟨b, o', none⟩) hlt] at e'
 exact h.2 b o v o' v' e e'⟩
theorem Keep.of_below' {B : Nat} {gs : List Nat} {w w' : World} (h : Below w.heap.size w w') (hB : B ≤ w.heap.size) : Keep B gs w w' := .of_below (h.mono hB)
theorem Rel.step (R : Rel c fr g st a w) {w' : World} (h : Below w.heap.size w w') : Rel c fr g st a w' :=
 R.world (.of_below' h R.keep.size) (R.agr.below h) fun x b ho => h.block b (R.owned ho).1
theorem Rel.none (R : Rel c fr g st a w) {h : Nat} (hh : w.heap.size ≤ h) (o : Nat) : g.S h o = none := by
 cases e : g.S h o with
 | none => rfl
 | some v => have := R.agr.lt e; omega
theorem Rel.unowned (R : Rel c fr g st a w) {h : Nat} (hh : w.heap.size ≤ h) (x : Bool × Nat) : ¬ Owns st g x h := fun o => by have := (R.owned o).1; omega
theorem Rel.ext (R : Rel c fr g st a w) {S' : Snap} (hle : SLe g.S S') (hagr : Agr S' w) (hn : ∀ b o, S' b o ≠ g.S b o → c.w0.heap.size ≤ b ∧ ∀ x, ¬ Owns st g x b) :
  Rel c fr { g with S := S' } st a w := by
 have L : g.Le { g with S := S' } := ⟨hle, fun _ _ h => h, fun _ _ h => h⟩
 refine ⟨R.size, R.defers, R.keep, R.sle.trans hle, fun b o hb => ?_, hagr, fun i => (R.tmp i).mono L, fun b cs hb => ?_, fun k r hl => ?_, R.inj, R.free, R.hand⟩
 ·rw [← R.old b o hb]
  exact Classical.byContradiction fun h => by have := (hn b o h).1; omega
 ·obtain ⟨h, vs, T, e, k, hh, hc, hs⟩ := R.box b cs hb
  refine ⟨h, vs, T, e, k, hh, hc.imp fun _ _ x => x.mono L, fun o => ?_⟩
  rw [← hs o]
  exact Classical.byContradiction fun hne => (hn h o hne).2 (true, b) ⟨by simp [hb], e⟩
 ·obtain ⟨v, e1, e2, e3, e4⟩ := R.row k r hl
  refine ⟨v, e1, e2, fun hv => ?_, fun hv => (e4 hv).mono hle⟩
  obtain ⟨vs, hown, hp, hS⟩ := e3 hv
  refine ⟨vs, hown, hp.imp fun _ _ p => p.mono hle, fun h hb o => ?_⟩
  rw [← hS h hb o]
  exact Classical.byContradiction fun hne => (hn h o hne).2 (false, k) ⟨⟨r, hl, hv⟩, v, e1, hb⟩
theorem Rel.kill (R : Rel c fr g st a w) (k : Option Nat) : Rel c fr g { st with gr := killT st.gr k } a w := by
 cases k with
 | none => exact R
 | some k =>
  have sub : ∀ j es, (upd st.gr k Option.none) j = some es → st.gr j = some es := fun j es h => by
   unfold upd at h
   split at h
   ·cases h
   ·exact h
  refine ⟨R.size, R.defers, R.keep, R.sle, R.old, R.agr, R.tmp, R.box, fun j r hl => R.row j r (sub j _ hl), ?_, R.free, R.hand⟩
  have own : ∀ x h, Owns { st with gr := killT st.gr (some k) } g x h → Owns st g x h := fun x h => by
   obtain ⟨b, i⟩ := x
   cases b with
   | true => exact id
   | false =>
    rintro ⟨⟨r, h1, h2⟩, q⟩
    exact ⟨⟨r, sub _ _ h1, h2⟩, q⟩
  exact fun x y h hx hy => R.inj x y h (own x h hx) (own y h hy)
theorem Rel.addBox (R : Rel c fr g st a w) {id h : Nat} {cs : List AV} {vs : Array Value} {T : TypeId} (hf : fr id) (hb : c.w0.heap.size ≤ h) (hh : w.heap[h]? = some (.cells vs T (0, 0)))
  (hu : ∀ x, ¬ Owns st g x h) (hs : ∀ o, g.S h o = Option.none) (hc : All2 (Cel g) cs vs.toList) :
  Rel c (fun i => fr i ∧ i ≠ id) { g with ι := upd g.ι id (some h) } { st with bx := upd st.bx id (some cs) } a w ∧ g.Le { g with ι := upd g.ι id (some h) } := by
 have hι := (R.free id hf).1
 have L : g.Le { g with ι := upd g.ι id (some h) } := ⟨SLe.refl _, fun b x e => by
  show upd g.ι id (some h) b = some x
  unfold upd
  split
  ·rename_i he; subst he; rw [hι] at e; cases e
  ·exact e, fun _ _ e => e⟩
 have own : ∀ x b, Owns { st with bx := upd st.bx id (some cs) } { g with ι := upd g.ι id (some h) } x b → (x = (true, id) ∧ b = h) ∨ (x ≠ (true, id) ∧ Owns st g x b) := fun x b => by
  obtain ⟨t, i⟩ := x
  cases t with
  | true =>
   rintro ⟨h1, h2⟩
   simp only [upd] at h1 h2
   by_cases hi : i = id
   ·subst hi; simp at h2; exact .inl ⟨rfl, h2.symm⟩
   ·simp only [hi, if_false] at h1 h2
    exact .inr ⟨by simp [hi], h1, h2⟩
  | false => exact fun k => .inr ⟨by simp, k⟩
 refine ⟨⟨R.size, R.defers, R.keep, R.sle, R.old, R.agr, fun i => (R.tmp i).mono L, fun b cs' hb' => ?_, fun k r hl => ?_, fun x y b hx hy => ?_, fun i hi => ?_, fun j h hj => L.ι _ _ (R.hand j h hj)⟩, L⟩
 ·simp only [upd] at hb'
  split at hb'
  ·rename_i he; subst he; cases hb'
   exact ⟨h, vs, T, by simp [upd], .inl hb, hh, hc.imp fun _ _ x => x.mono L, hs⟩
  ·rename_i he
   obtain ⟨h', vs', T', e, k, hh', hc', hs'⟩ := R.box b cs' hb'
   exact ⟨h', vs', T', by simp [upd, he, e], k, hh', hc'.imp fun _ _ x => x.mono L, hs'⟩
 ·obtain ⟨v, e1, e2, e3, e4⟩ := R.row k r hl
  exact ⟨v, e1, e2, e3, e4⟩
 ·rcases own x b hx with ⟨rfl, rfl⟩ | ⟨hx1, hx2⟩ <;> rcases own y b hy with ⟨rfl, hy'⟩ | ⟨hy1, hy2⟩
  ·rfl
  ·exact absurd hy2 (hu y)
  ·subst hy'; exact absurd hx2 (hu x)
  ·exact R.inj x y b hx2 hy2
 ·obtain ⟨h1, h2⟩ := R.free i hi.1
  exact ⟨by simp [upd, hi.2, h1], h2⟩
theorem Rel.addRow (R : Rel c fr g st a w) {id e sz : Nat} {v : Value} {xs : List (List AV)} {vs : List Value} (hf : fr id) (hown : w.ownsRow c.w0.heap.size e sz v xs.length vs) (hsz : ∀ c ∈ xs, c.length = sz) (hp : All2 (Pur g.S) xs.flatten vs)
  (hu : ∀ h, v.ownBlock = some h → ∀ x, ¬ Owns st g x h) (hs : ∀ h, v.ownBlock = some h → ∀ o, g.S h o = Option.none) :
  Rel c (fun i => fr i ∧ i ≠ id) { g with τ := upd g.τ id (some v) } { st with gr := upd st.gr id (some ⟨e, sz, xs, true⟩) } a w ∧ g.Le { g with τ := upd g.τ id (some v) } := by
 have hτ := (R.free id hf).2
 have L : g.Le { g with τ := upd g.τ id (some v) } := ⟨SLe.refl _, fun _ _ e => e, fun b x e => by
  show upd g.τ id _ b = some x
  unfold upd
  split
  ·rename_i he; subst he; rw [hτ] at e; cases e
  ·exact e⟩
 have own : ∀ x b, Owns { st with gr := upd st.gr id (some ⟨e, sz, xs, true⟩) } { g with τ := upd g.τ id (some v) } x b → (x = (false, id) ∧ v.ownBlock = some b) ∨ (x ≠ (false, id) ∧ Owns st g x b) := fun x b => by
  obtain ⟨t, i⟩ := x
  cases t with
  | false =>
   rintro ⟨⟨r, h1, hl⟩, v', h2, h3⟩
   simp only [upd] at h1 h2
   by_cases hi : i = id
   ·subst hi; simp at h2; subst h2; exact .inl ⟨rfl, h3⟩
   ·simp only [hi, if_false] at h1 h2
    exact .inr ⟨by simp [hi], ⟨r, h1, hl⟩, v', h2, h3⟩
  | true => exact fun k => .inr ⟨by simp, k⟩
 have hb0 : Base0 v := by
  rcases hown.2 with ⟨q, _⟩ | ⟨h, cap, cur, q, _⟩
  ·exact .inl q
  ·exact .inr ⟨h, _, cap, q⟩
 refine ⟨⟨R.size, R.defers, R.keep, R.sle, R.old, R.agr, fun i => (R.tmp i).mono L, fun b cs' hb' => ?_, fun k r hl => ?_, fun x y b hx hy => ?_, fun i hi => ?_, fun j h hj => L.ι _ _ (R.hand j h hj)⟩, L⟩
 ·obtain ⟨h', vs', T', e1, k, hh', hc', hs'⟩ := R.box b cs' hb'
  exact ⟨h', vs', T', e1, k, hh', hc'.imp fun _ _ x => x.mono L, hs'⟩
 ·simp only [upd] at hl
  split at hl
  ·rename_i he; subst he; cases hl
   exact ⟨v, by simp [upd], ⟨hsz, hb0⟩, fun _ => ⟨vs, hown, hp, hs⟩, (fun h => by cases h)⟩
  ·rename_i he
   obtain ⟨v', e1, r⟩ := R.row k r hl
   exact ⟨v', by simp [upd, he, e1], r⟩
 ·rcases own x b hx with ⟨rfl, hx'⟩ | ⟨hx1, hx2⟩ <;> rcases own y b hy with ⟨rfl, hy'⟩ | ⟨hy1, hy2⟩
  ·rfl
  ·exact absurd hy2 (hu b hx' y)
  ·exact absurd hx2 (hu b hy' x)
  ·exact R.inj x y b hx2 hy2
 ·obtain ⟨h1, h2⟩ := R.free i hi.1
  exact ⟨h1, by simp [upd, hi.2, h2]⟩
def Snap.blk (S : Snap) (h : Nat) (xs : List Value) : Snap := fun b o => if b = h then xs[o]? else S b o
theorem Snap.blk_le {S : Snap} {h : Nat} {xs : List Value} (hx : ∀ o, S h o = Option.none) : SLe S (S.blk h xs) := fun b o v e => by
 unfold Snap.blk
 split
 ·rename_i k; subst k; rw [hx o] at e; cases e
 ·exact e
theorem Agr.blk {S : Snap} (hA : Agr S w) {h : Nat} {cur : Array Value} {T : TypeId} (hh : w.heap[h]? = some (.cells cur T (0, 0))) : Agr (S.blk h cur.toList) w := by
 have hc : ∀ o, w.cell? ⟨h, o, Option.none⟩ = cur.toList[o]? := fun o => by rw [cell_of_row w h o cur T (0, 0) hh, ← Array.getElem?_toList]
 refine ⟨fun b o v e => ?_, fun b o v o' v' e e' => ?_⟩
 ·unfold Snap.blk at e
  split at e
  ·rename_i k; subst k; rw [hc]; exact e
  ·exact hA.1 b o v e
 ·unfold Snap.blk at e ⊢
  split at e
  ·rename_i k; subst k; rw [if_pos rfl, ← hc]; exact e'
  ·rename_i k; rw [if_neg k]; exact hA.2 b o v o' v' e e'
theorem cells_of {S : Snap} {h : Nat} : ∀ {cs : List AV} {vs : List Value} {o : Nat}, All2 (Pur S) cs vs → (∀ j u, vs[j]? = some u → S h (o + j) = some u) → Cells S h o cs
 | _, _, _, .nil, _ => .nil
 | _, _, o, .cons p r, hs => .cons (hs 0 _ rfl) p (cells_of r fun j u hj => by rw [show o + 1 + j = o + (j + 1) by omega]; exact hs (j + 1) u (by simpa using hj))
theorem Rel.shut1 (R : Rel c fr g st a w) {k : Nat} {r : GR} (hk : st.gr k = some r) : ∃ g', g.Le g' ∧ g'.ι = g.ι ∧ g'.τ = g.τ ∧ Rel c fr g' { st with gr := upd st.gr k (some { r with live := false }) } a w := by
 have sub : ∀ j x, upd st.gr k (some { r with live := false }) j = some x → x.live = true → st.gr j = some x := fun j x h hl => by
  unfold upd at h
  split at h
  ·cases h; cases hl
  ·exact h
 have own : ∀ x b, Owns { st with gr := upd st.gr k (some { r with live := false }) } g x b → Owns st g x b := fun x b => by
  obtain ⟨t, i⟩ := x
  cases t with
  | true => exact id
  | false =>
   rintro ⟨⟨x, h1, h2⟩, q⟩
   exact ⟨⟨x, sub _ _ h1 h2, h2⟩, q⟩
 obtain ⟨v, e1, e2, e3, e4⟩ := R.row k r hk
 have fin : ∀ g' : Gh, g.Le g' → g'.ι = g.ι → g'.τ = g.τ → Rel c fr g' st a w ∨ (Rel c fr g' { st with gr := killT st.gr (some k) } a w) → Pur g'.S (.row r.xs) v → Rel c fr g' { st with gr := upd st.gr k (some { r with live := false }) } a w := fun g' L hι hτ R' hp => by
  have hrow : ∀ j x, j ≠ k → st.gr j = some x → ∃ v, g'.τ j = some v ∧ ((∀ c ∈ x.xs, c.length = x.sz) ∧ Base0 v) ∧
    (x.live = true → ∃ vs, w.ownsRow c.w0.heap.size x.e x.sz v x.xs.length vs ∧ All2 (Pur g'.S) x.xs.flatten vs ∧ ∀ h, v.ownBlock = some h → ∀ o, g'.S h o = Option.none) ∧ (x.live = false → Pur g'.S (.row x.xs) v) := fun j x hj hx => by
   rcases R' with R' | R'
   ·exact R'.row j x hx
   ·exact R'.row j x (by show upd st.gr k Option.none j = some x; unfold upd; rw [if_neg hj]; exact hx)
  have base : ∃ st' : AS, Rel c fr g' st' a w ∧ st'.t = st.t ∧ st'.bx = st.bx := R'.elim (fun h => ⟨st, h, rfl, rfl⟩) fun h => ⟨_, h, rfl, rfl⟩
  obtain ⟨st', Rb, ht, hb⟩ := base
  refine ⟨Rb.size, Rb.defers, Rb.keep, Rb.sle, Rb.old, Rb.agr, fun i => by rw [← ht]; exact Rb.tmp i, fun b cs h => Rb.box b cs (by rw [hb]; exact h), fun j x hj => ?_, fun x y b hx hy => ?_, Rb.free, Rb.hand⟩
  ·simp only [upd] at hj
   split at hj
   ·rename_i he; subst he; cases hj
    exact ⟨v, by rw [hτ]; exact e1, e2, (fun h => by cases h), fun _ => hp⟩
   ·rename_i he; exact hrow j x he hj
  ·have conv : ∀ x b, Owns { st with gr := upd st.gr k (some { r with live := false }) } g' x b → Owns st g x b := fun x b ho => own x b (by
    obtain ⟨t, i⟩ := x
    cases t with
    | true => exact ⟨ho.1, by rw [← hι]; exact ho.2⟩
    | false => exact ⟨ho.1, by rw [← hτ]; exact ho.2⟩)
   exact R.inj x y b (conv x b hx) (conv y b hy)
 cases hl : r.live with
 | false => exact ⟨g, .refl g, rfl, rfl, fin g (.refl g) rfl rfl (.inl R) (e4 hl)⟩
 | true =>
  obtain ⟨vs, hown, hp, hS⟩ := e3 hl
  rcases hown.2 with ⟨q1, q2⟩ | ⟨h, cap, cur, q, hb, hh, r1, r2, r3, r4⟩
  ·have hx : r.xs = [] := List.eq_nil_of_length_eq_zero q2
   exact ⟨g, .refl g, rfl, rfl, fin g (.refl g) rfl rfl (.inl R) (by rw [hx, q1]; exact .nil)⟩
  ·subst q
   have hob : Value.ownBlock (.slice (some ⟨h, 0, Option.none⟩) r.xs.length cap) = some h := rfl
   have hle : SLe g.S (g.S.blk h cur.toList) := Snap.blk_le fun o => hS h hob o
   have L : g.Le { g with S := g.S.blk h cur.toList } := ⟨hle, fun _ _ e => e, fun _ _ e => e⟩
   have hno : ∀ x, ¬ Owns { st with gr := killT st.gr (some k) } g x h := fun x hx => by
    have hx' : Owns st g x h := by
     obtain ⟨t, i⟩ := x
     cases t with
     | true => exact hx
     | false =>
      obtain ⟨⟨y, h1, h2⟩, q⟩ := hx
      refine ⟨⟨y, ?_, h2⟩, q⟩
      simp only [killT, upd] at h1
      split at h1
      ·cases h1
      ·exact h1
    have := R.inj x (false, k) h hx' ⟨⟨r, hk, hl⟩, _, e1, hob⟩
    subst this
    obtain ⟨⟨y, h1, _⟩, _⟩ := hx
    simp [killT, upd] at h1
   have R1 := (R.kill (some k)).ext (S' := g.S.blk h cur.toList) hle (R.agr.blk hh) fun b o hne => by
    unfold Snap.blk at hne
    split at hne
    ·rename_i hbh; subst hbh; exact ⟨hb, hno⟩
    ·exact absurd rfl hne
   refine ⟨{ g with S := g.S.blk h cur.toList }, L, rfl, rfl, fin _ L rfl rfl (.inr R1) ?_⟩
   have hcl : Cells (g.S.blk h cur.toList) h 0 r.xs.flatten := cells_of (hp.imp fun _ _ p => p.mono hle) fun j u hj => by
    unfold Snap.blk
    rw [if_pos rfl, Nat.zero_add]
    rw [← r4, List.getElem?_take] at hj
    split at hj
    ·exact hj
    ·cases hj
   exact .row r.sz e2.1 (Rows.of_flat hcl) rfl r1
theorem shut_one {gr : Gr} {k : Nat} {ks : List Nat} : shut gr (k :: ks) = shut (match gr k with | some r => upd gr k (some r.shut) | none => gr) ks := by
 funext j
 unfold shut
 by_cases hj : j = k
 ·subst hj
  cases hk : gr j with
  | none => simp [hk]
  | some r => simp [upd, GR.shut]
 ·cases hk : gr k with
  | none => simp [hj]
  | some r => simp [upd, hj]
theorem Rel.shuts : ∀ (ks : List Nat) {g : Gh} {st : AS}, Rel c fr g st a w → ∃ g', g.Le g' ∧ g'.ι = g.ι ∧ g'.τ = g.τ ∧ Rel c fr g' { st with gr := Go.Proofs.YtnjmilelifmfpaaGreatDoor.Ev.shut st.gr ks } a w
 | [], g, st, R => ⟨g, .refl g, rfl, rfl, by rw [show Go.Proofs.YtnjmilelifmfpaaGreatDoor.Ev.shut st.gr [] = st.gr from funext fun k => if_neg (by simp)]; exact R⟩
 | k :: ks, g, st, R => by
  rw [shut_one]
  cases hk : st.gr k with
  | none => exact R.shuts ks
  | some r =>
   obtain ⟨g1, L1, i1, t1, R1⟩ := R.shut1 hk
   obtain ⟨g2, L2, i2, t2, R2⟩ := R1.shuts ks
   exact ⟨g2, ⟨L1.S.trans L2.S, fun b h e => L2.ι _ _ (L1.ι _ _ e), fun b h e => L2.τ _ _ (L1.τ _ _ e)⟩, i2.trans i1, t2.trans t1, R2⟩
end
end Go.Proofs.YtnjmilelifmfpaaGreatDoor.Ev

namespace Go.Proofs.YtnjmilelifmfpaaGreatDoor.Ev
open Go Go.RowKit
set_option linter.unusedSimpArgs false
set_option linter.unusedVariables false

def g0 (S : Snap) : Gh := ⟨S, fun _ => none, fun _ => none⟩
def Post (S : Snap) (w : World) : AOut → Ending → World → Prop
 | .ret v, .returned x, w' => ∃ S', SLe S S' ∧ (∀ b o, b < w.heap.size → S' b o = S b o) ∧ Agr S' w' ∧ Below w.heap.size w w' ∧ Rep (g0 S') v x
 | .pan v, .panicked ch, w' => ∃ x, ch = [{ v := x, recovered := false }] ∧ v = .s x ∧ Below w.heap.size w w'
 | _, _, _ => False
structure JW where
 p : World → Prop
 lo : Nat
instance : CoeFun JW fun _ => World → Prop := ⟨JW.p⟩
structure JOk (J : JW) : Prop where
 lo : ∀ w, J w → J.lo ≤ w.heap.size
 keep : ∀ w w' B hs, J.lo ≤ B → (∀ h ∈ hs, J.lo ≤ h) → Keep B hs w w' → J w → J w'
def Jof (w : World) : JW := ⟨fun w' => Below w.heap.size w w', w.heap.size⟩
theorem Jof.ok (w : World) : JOk (Jof w) where
 lo := fun w' h => h.size
 keep := fun u v B hs hB hh k h => ⟨k.os.trans h.os, k.tape.trans h.tape, k.output.trans h.output, Nat.le_trans h.size k.size, fun i hi => (k.block i (Nat.lt_of_lt_of_le hi hB) (fun hm => absurd hi (Nat.not_lt.2 (hh i hm)))).trans (h.block i hi)⟩
structure Handed (lo : Nat) (S : Snap) (w : World) (hs : List Nat) (css : List AV) : Prop where
 ge : ∀ h ∈ hs, lo ≤ h
 nd : hs.Nodup
 len : css.length = hs.length
 box : ∀ (j : Nat) (c : AV) (h : Nat), css[j]? = some c → hs[j]? = some h → ∃ cs vs T, c = .agg cs ∧ w.heap[h]? = some (.cells vs T (0, 0)) ∧ All2 (Pur S) cs vs.toList ∧ ∀ o, S h o = none
def gH (S : Snap) (hs : List Nat) : Gh := ⟨S, fun j => hs[j]?, fun _ => none⟩
def HandEnd (S : Snap) (w : World) (hs : List Nat) (S' : Snap) (w' : World) (l : List AV) : Prop :=
 SLe S S' ∧ (∀ b o, b < w.heap.size → S' b o = S b o) ∧ Agr S' w' ∧ ∃ css : List (List AV), l = css.map .agg ∧ css.length = hs.length ∧
  ∀ (j : Nat) (cs : List AV) (h : Nat), css[j]? = some cs → hs[j]? = some h → ∃ vs T, w'.heap[h]? = some (.cells vs T (0, 0)) ∧ All2 (Pur S') cs vs.toList
def PostH (S : Snap) (w : World) (hs : List Nat) : AOut → Ending → World → Prop
 | .ret (.tup (v :: l)), .returned x, w' => ∃ S', HandEnd S w hs S' w' l ∧ Keep w.heap.size hs w w' ∧ Rep (g0 S') v x
 | .pan (.tup (v :: l)), .panicked ch, w' => ∃ S' x, ch = [{ v := x, recovered := false }] ∧ v = .s x ∧ HandEnd S w hs S' w' l ∧ Keep w.heap.size hs w w'
 | _, _, _ => False
def headT : List AV → Option (List AV × List AV)
 | .tup css :: r => some (css, r)
 | _ => none
def OkAt (P : Program) (J : JW) (f : FuncId) (args : List AV) (out : AOut) : Prop := match headT args with
 | none => ∀ S w vs, J w → Agr S w → All2 (Rep (g0 S)) args vs → Calls P f vs.toArray w (Post S w out)
 | some (css, r) => ∀ S w hs vs, J w → Agr S w → Handed J.lo S w hs css → All2 (Rep (gH S hs)) r vs → Calls P f vs.toArray w (PostH S w hs out)
def Ok (P : Program) (J : JW) (E : Env) : Prop := ∀ f args out, E f args out → fnOk P f = true ∧ OkAt P J f args out
def PanR (c : Cx) (p : AV) (x : Value) (w : World) : Prop := match c.gs with
 | [] => p = .s x
 | _ => ∃ S' l, p = .tup (.s x :: l) ∧ HandEnd c.S0 c.w0 c.gs S' w l

theorem Rel.weak {c : Cx} {fr fr' : Nat → Prop} {g : Gh} {st : AS} {a : Act} {w : World} (R : Rel c fr g st a w) (h : ∀ i, fr' i → fr i) : Rel c fr' g st a w :=
 ⟨R.size, R.defers, R.keep, R.sle, R.old, R.agr, R.tmp, R.box, R.row, R.inj, fun i hi => R.free i (h i hi), R.hand⟩
theorem g0_le {S : Snap} {g : Gh} (h : SLe S g.S) : (g0 S).Le g := ⟨h, fun _ _ e => by simp [g0] at e, fun _ _ e => by simp [g0] at e⟩
def Shut (gr : Gr) (ks : List Nat) : Prop := ∀ k ∈ ks, ∀ r, gr k = some r → r.live = false
section
variable {c : Cx} {fr : Nat → Prop} {g : Gh} {st : AS} {a : Act} {w : World}
theorem pcell_pur (R : Rel c fr g st a w) {x : AV} {v : Value} (h : Cel g x v) (hs : Shut st.gr (refC x)) : Pur g.S (pcell st.gr x) v := by
 unfold pcell
 split
 ·cases h with | pur p => cases p; exact .nil
 ·cases h with | pur p => cases p with | s h1 => exact .s h1
 ·cases h with | pur p => exact p
 ·rename_i k
  split
  ·rename_i r hr
   obtain ⟨v', e1, _, _, e4⟩ := R.row k r hr
   cases h with
   | pur p => cases p
   | ref e _ => rw [e] at e1; cases e1; exact e4 (hs k (by simp [refC]) r hr)
  ·exact .any h.one
 ·exact .any h.one
theorem pcell_rep (R : Rel c fr g st a w) {x : AV} {v : Value} (h : Cel g x v) (hs : Shut st.gr (refC x)) : Cel (g0 g.S) (pcell st.gr x) v := .pur (pcell_pur R h hs)
theorem pcells_rep (R : Rel c fr g st a w) {l : List AV} {vs : List Value} (h : All2 (Cel g) l vs) : (∀ y ∈ l, Shut st.gr (refC y)) → All2 (Cel (g0 g.S)) (l.map (pcell st.gr)) vs := by
 induction h with
 | nil => intro _; exact .nil
 | cons h _ ih => intro hs; exact .cons (pcell_rep R h (hs _ (List.mem_cons_self ..))) (ih fun y hy => hs y (List.mem_cons_of_mem _ hy))
theorem pcells_pur (R : Rel c fr g st a w) {l : List AV} {vs : List Value} (h : All2 (Cel g) l vs) : (∀ y ∈ l, Shut st.gr (refC y)) → All2 (Pur g.S) (l.map (pcell st.gr)) vs := by
 induction h with
 | nil => intro _; exact .nil
 | cons h _ ih => intro hs; exact .cons (pcell_pur R h (hs _ (List.mem_cons_self ..))) (ih fun y hy => hs y (List.mem_cons_of_mem _ hy))
theorem strip_com (R : Rel c fr g st a w) {x : AV} {v : Value} (h : Com g x v) (hs : Shut st.gr (refs x)) : Com (g0 g.S) (strip st.gr x) v := by
 cases h with
 | cel cl =>
  have : (strip st.gr x = pcell st.gr x ∧ refs x = refC x) ∨ (∃ cs, x = .agg cs ∨ x = .tup cs) ∨ ∃ f xs ys, x = .fn f xs ys := by cases x <;> simp [strip, refs]
  rcases this with ⟨h, h'⟩ | ⟨cs, rfl|rfl⟩ | ⟨f, xs, ys, rfl⟩
  ·rw [h]; rw [h'] at hs; exact .cel (pcell_rep R cl hs)
  ·cases cl with | pur p => cases p
  ·cases cl with | pur p => cases p
  ·cases cl with | pur p => cases p
 | agg cs =>
  simp only [strip]
  exact .agg (pcells_rep R cs fun y hy k hk => hs k (List.mem_flatMap.2 ⟨y, hy, hk⟩))
 | fn xs ys =>
  simp only [strip]
  exact .fn (pcells_rep R xs fun y hy k hk => hs k (List.mem_append_left _ (List.mem_flatMap.2 ⟨y, hy, hk⟩))) (pcells_rep R ys fun y hy k hk => hs k (List.mem_append_right _ (List.mem_flatMap.2 ⟨y, hy, hk⟩)))
theorem pcellK_rep (R : Rel c fr g st a w) {x : AV} {v : Value} (h : Cel g x v) (hs : Shut st.gr (refC x)) : Cel (g0 g.S) (pcellK st.gr x) v := by
 unfold pcellK
 split
 ·cases h with | pur p => exact .pur (by cases p; exact .s rfl)
 ·exact pcell_rep R h hs
theorem pcellsK_rep (R : Rel c fr g st a w) {l : List AV} {vs : List Value} (h : All2 (Cel g) l vs) : (∀ y ∈ l, Shut st.gr (refC y)) → All2 (Cel (g0 g.S)) (l.map (pcellK st.gr)) vs := by
 induction h with
 | nil => intro _; exact .nil
 | cons h _ ih => intro hs; exact .cons (pcellK_rep R h (hs _ (List.mem_cons_self ..))) (ih fun y hy => hs y (List.mem_cons_of_mem _ hy))
theorem stripK_com (R : Rel c fr g st a w) {x : AV} {v : Value} (h : Com g x v) (hs : Shut st.gr (refs x)) : Com (g0 g.S) (stripK st.gr x) v := by
 unfold stripK
 split
 ·cases h with
  | cel cl => cases cl with | pur p => cases p
  | agg cs => exact .agg (pcellsK_rep R cs fun y hy k hk => hs k (List.mem_flatMap.2 ⟨y, hy, hk⟩))
 ·cases h with | cel cl => exact .cel (by cases cl with | pur p => exact .pur (by cases p; exact .s rfl))
 ·exact strip_com R h hs
theorem strip_rep (R : Rel c fr g st a w) {x : AV} {v : Value} (h : Rep g x v) (hs : Shut st.gr (refs x)) : Rep (g0 g.S) (strip st.gr x) v := by
 cases h with
 | com cm => exact .com (strip_com R cm hs)
 | tup cs => exact .any
 | any =>
  simp only [strip, pcell]
  exact .any
theorem stripB_rep (R : Rel c fr g st a w) (k : Bool) {x : AV} {v : Value} (h : Rep g x v) (hs : Shut st.gr (refs x)) : Rep (g0 g.S) (stripB k st.gr x) v := by
 cases k with
 | false => exact strip_rep R h hs
 | true =>
  cases h with
  | com cm => exact .com (stripK_com R cm hs)
  | tup cs => exact .any
  | any => exact .any
theorem args_rep (R : Rel c fr g st a w) (k : Bool) : ∀ {xs : List Operand}, oAll xs = true → Shut st.gr ((xs.map st.ev).flatMap refs) → All2 (Rep (g0 g.S)) (xs.map fun x => stripB k st.gr (st.ev x)) (xs.map a.eval)
 | [], _, _ => .nil
 | x :: xs, h, hs => by
  simp only [oAll, List.all_cons, Bool.and_eq_true] at h
  exact .cons (stripB_rep R k (R.ev x h.1) fun k hk => hs k (by simp [hk])) (args_rep R k h.2 fun k hk => hs k (by simp only [List.map_cons, List.flatMap_cons]; exact List.mem_append_right _ hk))
theorem pcell_cells {gr : Gr} {x : AV} {cs : List AV} (h : cellsA (pcell gr x) = some cs) : cs = [pcell gr x] := by
 unfold pcell at h ⊢
 split at h <;> (try split at h) <;> simp_all [cellsA]
theorem strip_cells (R : Rel c fr g st a w) {x : AV} {v : Value} {cs : List AV} (h : Rep g x v) (hs : Shut st.gr (refs x)) (k : cellsA (strip st.gr x) = some cs) : All2 (Pur g.S) cs v.cells.toList := by
 have one : ∀ {b : AV} {v : Value}, Pur g.S b v → All2 (Pur g.S) [b] v.cells.toList := fun {b v} p => by
  have h1 := p.one
  cases v <;> first|(simp [Value.oneCell'] at h1; done)|exact .cons p .nil
 cases h with
 | com cm => cases cm with
  | cel cl =>
   have : strip st.gr x = pcell st.gr x ∧ refs x = refC x := by
    cases x <;> simp only [strip, refs, and_self]
    all_goals first
     | done
     | (cases cl with | pur p => cases p)
   rw [this.1] at k
   rw [this.2] at hs
   rw [pcell_cells k]
   exact one (pcell_pur R cl hs)
  | agg cl =>
   simp only [strip, cellsA, Option.some.injEq] at k
   subst k
   have : ∀ {l : List AV} {vs : List Value}, All2 (Cel g) l vs → (∀ y ∈ l, Shut st.gr (refC y)) → All2 (Pur g.S) (l.map (pcell st.gr)) vs := fun h => by
    induction h with
    | nil => intro _; exact .nil
    | cons h _ ih => intro hs; exact .cons (pcell_pur R h (hs _ (List.mem_cons_self ..))) (ih fun y hy => hs y (List.mem_cons_of_mem _ hy))
   simpa [Value.cells] using this cl fun y hy k hk => hs k (List.mem_flatMap.2 ⟨y, hy, hk⟩)
  | fn xs ys => simp [strip, cellsA] at k
 | tup _ => simp [strip, cellsA] at k
 | any => simp [strip, pcell, cellsA] at k
theorem ix_get {hs : List Nat} {b j : Nat} (h : ix hs b = some j) : hs[j]? = some b := by
 induction hs generalizing j with
 | nil => cases h
 | cons x l ih =>
  simp only [ix] at h
  split at h
  ·rename_i e; cases h; rw [e]; rfl
  ·simp only [Option.map_eq_some_iff] at h
   obtain ⟨i, hi, rfl⟩ := h
   simpa using ih hi
theorem hcell_rep (R : Rel c fr g st a w) {hs bl : List Nat} (hb : ∀ (j b : Nat), hs[j]? = some b → ∃ h, g.ι b = some h ∧ bl[j]? = some h) {x : AV} {v : Value} (h : Cel g x v) (hsh : Shut st.gr (refC x)) : Cel (gH g.S bl) (hcell st.gr hs x) v := by
 unfold hcell
 split
 ·cases h with
  | pur p => cases p
  | ptr e =>
   split
   ·rename_i j hj
    obtain ⟨h, e1, e2⟩ := hb j _ (ix_get hj)
    rw [e] at e1; cases e1
    exact .ptr e2
   ·exact .pur (.any rfl)
 ·exact .pur (pcell_pur R h hsh)
theorem hcells_rep (R : Rel c fr g st a w) {hs bl : List Nat} (hb : ∀ (j b : Nat), hs[j]? = some b → ∃ h, g.ι b = some h ∧ bl[j]? = some h) {l : List AV} {vs : List Value} (h : All2 (Cel g) l vs) : (∀ y ∈ l, Shut st.gr (refC y)) → All2 (Cel (gH g.S bl)) (l.map (hcell st.gr hs)) vs := by
 induction h with
 | nil => intro _; exact .nil
 | cons h _ ih => intro hs; exact .cons (hcell_rep R hb h (hs _ (List.mem_cons_self ..))) (ih fun y hy => hs y (List.mem_cons_of_mem _ hy))
theorem rep_gH {S : Snap} {bl : List Nat} {x : AV} {v : Value} (h : Rep (g0 S) x v) : Rep (gH S bl) x v := Rep.mono (g := g0 S) (g' := gH S bl) ⟨SLe.refl _, fun _ _ e => by simp [g0] at e, fun _ _ e => by simp [g0] at e⟩ h
theorem hstrip_rep (R : Rel c fr g st a w) {hs bl : List Nat} (hb : ∀ (j b : Nat), hs[j]? = some b → ∃ h, g.ι b = some h ∧ bl[j]? = some h) {x : AV} {v : Value} (h : Rep g x v) (hsh : Shut st.gr (refs x)) : Rep (gH g.S bl) (hstrip st.gr hs x) v := by
 unfold hstrip
 split
 ·cases h with
  | com cm => cases cm with
   | cel cl => cases cl with | pur p => cases p
   | fn xs ys => exact .com (.fn (hcells_rep R hb xs fun y hy k hk => hsh k (List.mem_append_left _ (List.mem_flatMap.2 ⟨y, hy, hk⟩))) (hcells_rep R hb ys fun y hy k hk => hsh k (List.mem_append_right _ (List.mem_flatMap.2 ⟨y, hy, hk⟩))))
 ·exact .com (.cel (hcell_rep R hb (Cel.conv h (by simp) (by simp) (by simp)) (by simp [Shut, refC])))
 ·exact rep_gH (strip_rep R h hsh)
theorem hargs_rep (R : Rel c fr g st a w) {hs bl : List Nat} (hb : ∀ (j b : Nat), hs[j]? = some b → ∃ h, g.ι b = some h ∧ bl[j]? = some h) {l : List AV} {vs : List Value} (h : All2 (Rep g) l vs) : (∀ y ∈ l, Shut st.gr (refs y)) → All2 (Rep (gH g.S bl)) (l.map (hstrip st.gr hs)) vs := by
 induction h with
 | nil => intro _; exact .nil
 | cons h _ ih => intro hs; exact .cons (hstrip_rep R hb h (hs _ (List.mem_cons_self ..))) (ih fun y hy => hs y (List.mem_cons_of_mem _ hy))
theorem sargs_rep (R : Rel c fr g st a w) {l : List AV} {vs : List Value} (h : All2 (Rep g) l vs) : (∀ y ∈ l, Shut st.gr (refs y)) → All2 (Rep (g0 g.S)) (l.map (strip st.gr)) vs := by
 induction h with
 | nil => intro _; exact .nil
 | cons h _ ih => intro hs; exact .cons (strip_rep R h (hs _ (List.mem_cons_self ..))) (ih fun y hy => hs y (List.mem_cons_of_mem _ hy))
theorem pcellN_pur {x : AV} {v : Value} (h : Cel g x v) : Pur g.S (pcellN x) v := by
 unfold pcellN
 split
 ·cases h with | pur p => cases p; exact .nil
 ·cases h with | pur p => cases p with | s h1 => exact .s h1
 ·cases h with | pur p => exact p
 ·exact .any h.one
theorem pcellsN_pur {l : List AV} {vs : List Value} (h : All2 (Cel g) l vs) : All2 (Pur g.S) (l.map pcellN) vs := by
 induction h with
 | nil => exact .nil
 | cons h _ ih => exact .cons (pcellN_pur h) ih
theorem handsN_get {bx : Nat → Option (List AV)} : ∀ {n k : Nat} {l : List AV}, handsN bx n k = some l → ∃ css : List (List AV), l = css.map .agg ∧ css.length = n ∧ ∀ (j : Nat) (cs : List AV), css[j]? = some cs → ∃ ds, bx (k + j) = some ds ∧ cs = ds.map pcellN
 | 0, k, l, h => by simp only [handsN, Option.some.injEq] at h; subst h; exact ⟨[], rfl, rfl, by simp⟩
 | n + 1, k, l, h => by
  simp only [handsN] at h
  split at h
  ·rename_i ds l' h1 h2
   cases h
   obtain ⟨css, rfl, e, f⟩ := handsN_get h2
   refine ⟨ds.map pcellN :: css, rfl, by simp [e], fun j cs hj => ?_⟩
   cases j with
   | zero => simp at hj; subst hj; exact ⟨ds, h1, rfl⟩
   | succ j => rw [show k + (j + 1) = k + 1 + j by omega]; exact f j cs (by simpa using hj)
  ·cases h
theorem Rel.panR (R : Rel c fr g st a w) {hn : Nat} (hh : hn = c.gs.length) {x : Value} {p : AV} (h : panV hn st.bx (.s x) = some p) : PanR c p x w := by
 unfold PanR
 unfold panV at h
 split
 ·rename_i e
  rw [e] at hh; subst hh
  cases h; rfl
 ·rename_i e
  cases hn with
  | zero => exact absurd (List.eq_nil_of_length_eq_zero hh.symm) e
  | succ n =>
   simp only [Option.map_eq_some_iff] at h
   obtain ⟨l, hl, rfl⟩ := h
   obtain ⟨css, rfl, e1, e2⟩ := handsN_get hl
   refine ⟨g.S, _, rfl, R.sle, R.old, R.agr, css, rfl, by omega, fun j cs h hj hb => ?_⟩
   obtain ⟨ds, d1, rfl⟩ := e2 j cs hj
   rw [Nat.zero_add] at d1
   obtain ⟨h', vs, T, k1, k2, k3, k4, k5⟩ := R.box j ds d1
   rw [R.hand j h hb] at k1; cases k1
   exact ⟨vs, T, k3, pcellsN_pur k4⟩
theorem shut_xs {gr : Gr} (ks : List Nat) (k : Nat) : ((shut gr ks) k).map (·.xs) = (gr k).map (·.xs) ∧ ∀ r, (shut gr ks) k = some r → (k ∈ ks → r.live = false) := by
 unfold shut
 by_cases hk : k ∈ ks
 ·rw [if_pos hk]
  refine ⟨by cases gr k <;> rfl, fun r hr _ => ?_⟩
  cases h : gr k with
  | none => rw [h] at hr; cases hr
  | some x => rw [h] at hr; cases hr; rfl
 ·rw [if_neg hk]; exact ⟨rfl, fun _ _ h => absurd h hk⟩
theorem shut_shut {gr : Gr} {ks : List Nat} : Shut (shut gr ks) ks := fun k hk r hr => (shut_xs ks k).2 r hr hk
theorem pcell_shut {gr : Gr} {ks : List Nat} {x : AV} : pcell (shut gr ks) x = pcell gr x := by
 cases x <;> try rfl
 case s x => cases x <;> first|rfl | (rename_i p n m; cases p <;> cases n <;> cases m <;> rfl)
 case ref k =>
  have := (shut_xs (gr := gr) ks k).1
  simp only [pcell]
  revert this
  cases shut gr ks k <;> cases gr k <;> simp
theorem strip_shut {gr : Gr} {ks : List Nat} {x : AV} : strip (shut gr ks) x = strip gr x := by
 cases x <;> simp only [strip, pcell_shut]
 all_goals rw [show pcell (shut gr ks) = pcell gr from funext fun _ => pcell_shut]
theorem pcellK_shut {gr : Gr} {ks : List Nat} {x : AV} : pcellK (shut gr ks) x = pcellK gr x := by
 unfold pcellK
 split <;> first|rfl|exact pcell_shut
theorem stripK_shut {gr : Gr} {ks : List Nat} {x : AV} : stripK (shut gr ks) x = stripK gr x := by
 unfold stripK
 split
 ·rw [show pcellK (shut gr ks) = pcellK gr from funext fun _ => pcellK_shut]
 ·rfl
 ·exact strip_shut
theorem stripB_shut {k : Bool} {gr : Gr} {ks : List Nat} {x : AV} : stripB k (shut gr ks) x = stripB k gr x := by cases k <;> first|exact strip_shut|exact stripK_shut
end
end Go.Proofs.YtnjmilelifmfpaaGreatDoor.Ev

namespace Go.Proofs.YtnjmilelifmfpaaGreatDoor.Ev
open Go Go.RowKit
set_option linter.unusedSimpArgs false
set_option linter.unusedVariables false

section
variable {P : Program} {c : Cx} {fr : Nat → Prop} {g : Gh} {st : AS} {a : Act} {w : World}
def After (c : Cx) (fr : Nat → Prop) (id : Nat) (st' : AS) (a : Act) (w : World) : Prop := ∃ g', Rel c (fun i => fr i ∧ i ≠ id) g' st' a w
theorem after_pure (R : Rel c fr g st a w) {id : Nat} {d : Option Nat} {av : AV} {v : Value} (hd : ∀ i, d = some i → i < c.n) (r : Rep g av v) : After c fr id (st.put d av) (a.put d v) w :=
 ⟨g, (R.put hd r).weak fun i h => h.1⟩

theorem undef_rep {g : Gh} : Rep g (.tup []) undef := Rep.tup (vs := []) .nil
theorem Rel.alloc (R : Rel c fr g st a w) (o : Obj) : Rel c fr g st a (w.alloc o) := R.step ((Below.refl _ _).alloc (Nat.le_refl _) o)
theorem after_box (R : Rel c fr g st a w) {id : Nat} {d : Option Nat} {cs : List AV} {vs : Array Value} {T : TypeId} (hf : fr id) (hd : ∀ i, d = some i → i < c.n) (hc : All2 (Cel g) cs vs.toList) :
  After c fr id ({ st with bx := upd st.bx id (some cs) }.put d (.ptr id 0)) (a.put d (.pointer (some ⟨w.heap.size, 0, none⟩))) (w.alloc (.cells vs T)) := by
 obtain ⟨R', L⟩ := (R.alloc (.cells vs T)).addBox hf R.keep.size (heap_alloc_new w _) (R.unowned (Nat.le_refl _)) (R.none (Nat.le_refl _)) hc
 exact ⟨_, R'.put hd (.com (.cel (.ptr (by simp [upd]))))⟩
theorem agr_other {S : Snap} {w w' : World} {h : Nat} (hA : Agr S w) (hs : ∀ o, S h o = none) (oth : ∀ k, k ≠ h → w'.heap[k]? = w.heap[k]?) : Agr S w' := by
 have ne : ∀ {b o v}, S b o = some v → b ≠ h := fun e he => by subst he; rw [hs] at e; cases e
 refine ⟨fun b o v e => ?_, fun b o v o' v' e e' => ?_⟩
 ·rw [World.cell?_of_block (w := w) (oth b (ne e))]; exact hA.1 b o v e
 ·rw [World.cell?_of_block (w := w) (oth b (ne e))] at e'; exact hA.2 b o v o' v' e e'
theorem after_store (R : Rel c fr g st a w) {id b h o : Nat} {d : Option Nat} {cs new : List AV} {vs : Array Value} {T : TypeId} {nv : List Value} (hd : ∀ i, d = some i → i < c.n) (hb : st.bx b = some cs) (hi : g.ι b = some h)
  (hh : w.heap[h]? = some (.cells vs T (0, 0))) (hc : All2 (Cel g) cs vs.toList) (hn : All2 (Cel g) new nv) (hlt : c.w0.heap.size ≤ h ∨ h ∈ c.gs) (hs : ∀ o, g.S h o = none) :
  After c fr id ({ st with bx := upd st.bx b (some (put1 cs o new)) }.put d (.tup [])) (a.put d undef) (w.setRow h (vs.toList.take o ++ nv ++ vs.toList.drop (o + nv.length)).toArray) := by
 have oth : ∀ k, k ≠ h → (w.setRow h (vs.toList.take o ++ nv ++ vs.toList.drop (o + nv.length)).toArray).heap[k]? = w.heap[k]? := fun k hk => setRow_other w h k _ hk
 have own : ∀ x k, Owns { st with bx := upd st.bx b (some (put1 cs o new)) } g x k → Owns st g x k := fun x k => by
  obtain ⟨t, i⟩ := x
  cases t with
  | true =>
   rintro ⟨h1, h2⟩
   refine ⟨?_, h2⟩
   simp only [upd] at h1
   split at h1
   ·rename_i he; subst he; simp [hb]
   ·exact h1
  | false => exact fun x => x
 have hne : ∀ x k, Owns st g x k → x ≠ (true, b) → k ≠ h := fun x k hx hxb hk => hxb (R.inj x (true, b) h (hk ▸ hx) ⟨by simp [hb], hi⟩)
 refine ⟨g, (Rel.put (st := { st with bx := upd st.bx b (some (put1 cs o new)) }) ⟨R.size, R.defers, R.keep.trans ⟨by simp, by simp, by simp, by simp, fun k hk hg => oth k ?_⟩, R.sle, R.old, agr_other R.agr hs oth, R.tmp, fun b' cs' hb' => ?_, fun k r hl => ?_, fun x y k hx hy => R.inj x y k (own x k hx) (own y k hy), fun i h => R.free i h.1, R.hand⟩ hd undef_rep)⟩
 ·rcases hlt with hlt | hlt
  ·omega
  ·exact fun he => hg (he ▸ hlt)
 ·simp only [upd] at hb'
  split at hb'
  ·rename_i he; subst he; cases hb'
   exact ⟨h, _, T, hi, hlt, setRow_heap w h vs _ T (0, 0) hh, by simpa using hc.put hn o, hs⟩
  ·rename_i he
   obtain ⟨h', vs', T', e1, k1, hh', hc', hs'⟩ := R.box b' cs' hb'
   exact ⟨h', vs', T', e1, k1, by rw [oth h' (hne (true, b') h' ⟨by simp [hb'], e1⟩ (by simp [he]))]; exact hh', hc', hs'⟩
 ·obtain ⟨v, e1, e2, e3, e4⟩ := R.row k r hl
  refine ⟨v, e1, e2, fun hv => ?_, e4⟩
  obtain ⟨vs', hown, q⟩ := e3 hv
  refine ⟨vs', ⟨hown.1, ?_⟩, q⟩
  rcases hown.2 with h' | ⟨h', cap, cur, hv', hb'', hh', r'⟩
  ·exact .inl h'
  ·exact .inr ⟨h', cap, cur, hv', hb'', by rw [oth h' (hne (false, k) h' ⟨⟨r, hl, hv⟩, v, e1, by rw [hv']; rfl⟩ (by simp))]; exact hh', r'⟩
theorem after_row (R : Rel c fr g st a w) {id e sz n : Nat} {d : Option Nat} {v : Value} {vs : List Value} {xs : List (List AV)} (hf : fr id) (hd : ∀ i, d = some i → i < c.n)
  (hown : w.ownsRow c.w0.heap.size e sz v n vs) (hu : ∀ h, v.ownBlock = some h → ∀ x, ¬ Owns st g x h) (hS : ∀ h, v.ownBlock = some h → ∀ o, g.S h o = none)
  (hn : xs.length = n) (hsz : ∀ c ∈ xs, c.length = sz) (hc : All2 (Pur g.S) xs.flatten vs) :
  After c fr id ({ st with gr := upd st.gr id (some ⟨e, sz, xs, true⟩) }.put d (.ref id)) (a.put d v) w := by
 subst hn
 obtain ⟨R', L⟩ := R.addRow hf hown hsz hc hu hS
 have h1 : v.oneCell' = true := by
  rcases hown.2 with ⟨q, _⟩ | ⟨h, cap, cur, q, _⟩ <;> rw [q] <;> rfl
 exact ⟨_, R'.put hd (rep_cel (.ref (by simp [upd]) h1))⟩
end
end Go.Proofs.YtnjmilelifmfpaaGreatDoor.Ev

namespace Go.Proofs.YtnjmilelifmfpaaGreatDoor.Ev
open Go Go.RowKit
set_option linter.unusedSimpArgs false
set_option linter.unusedVariables false

theorem wp_of_run {P : Program} {o : Oper} {a : Act} {w w' : World} {v : Value} {K : Act → World → Prop} {Q : Exit → Act → World → Prop} (h : (execOp a.eval o).run P w = .ok (.value v) w') (k : K (a.put o.dst v) w') : o.wp P a w K Q := by
 unfold Oper.wp; rw [h]; exact k
section
variable {P : Program} {c : Cx} {fr : Nat → Prop} {g : Gh} {st : AS} {a : Act} {w : World} {dst : Option Tmp} {type : TypeId} {pos : String} {after : Array Edge} {guard : Option (Nat × Bool)}
 {id : Nat} {K : AS → Prop} {Q : Exit → Act → World → Prop}
def Goes (c : Cx) (fr : Nat → Prop) (id : Nat) (K : AS → Prop) (a : Act) (w : World) : Prop := ∃ st', K st' ∧ After c fr id st' a w

theorem op_box (R : Rel c fr g st a w) (hf : fr id) (hd : ∀ i, dst = some i → i < c.n) {t : TypeId} {x : Operand} (hx : oOk x = true) {cs : List AV} (hc : cellsA (st.ev x) = some cs)
  (k : K ({ st with bx := upd st.bx id (some cs) }.put dst (.ptr id 0))) : Oper.wp P ⟨dst, .box t x, type, pos, after, guard⟩ a w (Goes c fr id K) Q := by
 refine wp_of_run (v := .pointer (some ⟨w.heap.size, 0, none⟩)) (w' := w.alloc (.cells (a.eval x).cells t)) ?_ ⟨_, k, after_box R hf hd (cellsA_rep (R.ev x hx) hc)⟩
 simp [execOp, Instr.box, newVar, newRow]
theorem op_alloc (R : Rel c fr g st a w) (hf : fr id) (hd : ∀ i, dst = some i → i < c.n) {t : TypeId} {z : List Value} (hz : zeroOf P t = some z)
  (k : K ({ st with bx := upd st.bx id (some (z.map .s)) }.put dst (.ptr id 0))) : Oper.wp P ⟨dst, .alloc t, type, pos, after, guard⟩ a w (Goes c fr id K) Q := by
 obtain ⟨v, hv, rfl, hall⟩ := run_zero hz w
 refine wp_of_run (v := .pointer (some ⟨w.heap.size, 0, none⟩)) (w' := w.alloc (.cells v.cells t)) ?_ ⟨_, k, after_box R hf hd (all2_s _ hall)⟩
 simp [execOp, Instr.alloc, hv, newVar, newRow]
theorem op_st (R : Rel c fr g st a w) (hd : ∀ i, dst = some i → i < c.n) {t : TypeId} {p x : Operand} {n : Nat} (hs : szOf P t = some n) (hx : oAll [p, x] = true) {b o : Nat} {cs new : List AV} (hp : st.ev p = .ptr b o)
  (hb : st.bx b = some cs) (hn : cellsA (st.ev x) = some new) (hl : new.length = n) (hle : o + n ≤ cs.length)
  (k : K ({ st with bx := upd st.bx b (some (put1 cs o new)) }.put dst (.tup []))) : Oper.wp P ⟨dst, .store t p x, type, pos, after, guard⟩ a w (Goes c fr id K) Q := by
 have ho := oAll_mem hx
 obtain ⟨h, vs, T, hi, hlt, hh, hc, hS⟩ := R.box b cs hb
 have rp := R.ev p (ho p (by simp))
 rw [hp] at rp
 have hev : a.eval p = .pointer (some ⟨h, o, none⟩) := by
  generalize hv : a.eval p = v at rp
  cases Cel.conv rp (by simp) (by simp) (by simp) with
  | pur q => cases q
  | ptr hi' => rw [hi] at hi'; cases hi'; rfl
 have hnew := cellsA_rep (R.ev x (ho x (by simp))) hn
 have hone : ∀ v ∈ (a.eval x).cells.toList, v.oneCell' = true := by
  have : ∀ {la : List AV} {bs : List Value}, All2 (Cel g) la bs → ∀ v ∈ bs, v.oneCell' = true := fun h => by
   induction h with
   | nil => simp
   | cons h _ ih => exact fun v hv => (List.mem_cons.1 hv).elim (fun e => e ▸ h.one) (ih v)
  exact this hnew
 have hlen : (a.eval x).cells.toList.length = n := by rw [← hnew.length]; exact hl
 have hsc : (a.eval x).cells.size = n := by simpa using hlen
 have hcl := hc.length
 have hst := run_storeCells_at P h o T (a.eval x).cells.toList 0 vs w hh (by simp only [Array.length_toList] at hcl hlen ⊢; omega) hone
 simp only [Nat.add_zero] at hst
 have hr : (execOp a.eval (⟨dst, .store t p x, type, pos, after, guard⟩ : Oper)).run P w = .ok .skip (w.setRow h (vs.toList.take o ++ (a.eval x).cells.toList ++ vs.toList.drop (o + (a.eval x).cells.toList.length)).toArray) := by
  simp only [execOp, hev, Instr.storeAt, Instr.sureAddr, storeVar, Sem.run_bind, Sem.run_pure, Result.andThen_ok, run_sizeOf hs, hsc]
  simp [hst, hlen]
 unfold Oper.wp
 rw [hr]
 exact ⟨_, k, after_store R hd hb hi hh hc hnew hlt hS⟩
theorem Rel.reRow {k : Nat} (R : Rel c fr g { st with gr := killT st.gr (some k) } a w) {e sz : Nat} {v : Value} {xs : List (List AV)} {vs : List Value} (hτ : g.τ k = some v) (hown : w.ownsRow c.w0.heap.size e sz v xs.length vs) (hsz : ∀ c ∈ xs, c.length = sz)
  (hp : All2 (Pur g.S) xs.flatten vs) (hu : ∀ h, v.ownBlock = some h → ∀ x, ¬ Owns { st with gr := killT st.gr (some k) } g x h) (hs : ∀ h, v.ownBlock = some h → ∀ o, g.S h o = Option.none) :
  Rel c fr g { st with gr := upd st.gr k (some ⟨e, sz, xs, true⟩) } a w := by
 have hb0 : Base0 v := by
  rcases hown.2 with ⟨q, _⟩ | ⟨h, cap, cur, q, _⟩
  ·exact .inl q
  ·exact .inr ⟨h, _, cap, q⟩
 have own : ∀ x b, Owns { st with gr := upd st.gr k (some ⟨e, sz, xs, true⟩) } g x b → (x = (false, k) ∧ v.ownBlock = some b) ∨ Owns { st with gr := killT st.gr (some k) } g x b := fun x b => by
  obtain ⟨t, i⟩ := x
  cases t with
  | false =>
   rintro ⟨⟨r, h1, hl⟩, v', h2, h3⟩
   by_cases hi : i = k
   ·subst hi; rw [hτ] at h2; cases h2; exact .inl ⟨rfl, h3⟩
   ·exact .inr ⟨⟨r, by simp only [upd, hi, if_false] at h1; show upd st.gr k Option.none i = some r; unfold upd; rw [if_neg hi]; exact h1, hl⟩, v', h2, h3⟩
  | true => exact fun k => .inr k
 refine ⟨R.size, R.defers, R.keep, R.sle, R.old, R.agr, R.tmp, R.box, fun j r hl => ?_, fun x y b hx hy => ?_, R.free, R.hand⟩
 ·simp only [upd] at hl
  split at hl
  ·rename_i he; subst he; cases hl
   exact ⟨v, hτ, ⟨hsz, hb0⟩, fun _ => ⟨vs, hown, hp, hs⟩, (fun h => by cases h)⟩
  ·rename_i he
   exact R.row j r (by show upd st.gr k Option.none j = some r; unfold upd; rw [if_neg he]; exact hl)
 ·rcases own x b hx with ⟨rfl, hx'⟩ | hx2 <;> rcases own y b hy with ⟨rfl, hy'⟩ | hy2
  ·rfl
  ·exact absurd hy2 (hu b hx' y)
  ·exact absurd hx2 (hu b hy' x)
  ·exact R.inj x y b hx2 hy2
theorem flat_set {sz : Nat} (new : List AV) : ∀ (xs : List (List AV)) (i o : Nat) (cs : List AV), (∀ c ∈ xs, c.length = sz) → xs[i]? = some cs → o + new.length ≤ sz →
  (xs.set i (put1 cs o new)).flatten = xs.flatten.take (i * sz + o) ++ new ++ xs.flatten.drop (i * sz + o + new.length)
 | [], i, o, cs, _, h, _ => by simp at h
 | c :: xs, 0, o, cs, hk, h, hle => by
  simp at h; subst h
  have hc := hk c (List.mem_cons_self ..)
  simp only [List.set_cons_zero, List.flatten_cons, put1, Nat.zero_mul, Nat.zero_add]
  rw [List.take_append_of_le_length (by omega), List.drop_append_of_le_length (by omega)]
  simp [List.append_assoc]
 | c :: xs, i + 1, o, cs, hk, h, hle => by
  have hc := hk c (List.mem_cons_self ..)
  have ih := flat_set new xs i o cs (fun c hc => hk c (List.mem_cons_of_mem _ hc)) (by simpa using h) hle
  simp only [List.set_cons_succ, List.flatten_cons, ih]
  rw [show (i + 1) * sz + o = c.length + (i * sz + o) by rw [hc, Nat.add_mul]; omega, show c.length + (i * sz + o) + new.length = c.length + (i * sz + o + new.length) by omega,
   List.take_length_add_append, List.drop_length_add_append]
  simp [List.append_assoc]
theorem op_stR (R : Rel c fr g st a w) (hd : ∀ i, dst = some i → i < c.n) {t : TypeId} {p x : Operand} {n : Nat} (hs : szOf P t = some n) (hx : oAll [p, x] = true) {kk sz i o : Nat} {rr : GR} {cs new : List AV} (hp : st.ev p = .rptr kk sz i o)
  (hg : st.gr kk = some rr) (hlive : rr.live = true) (hsz : rr.sz = sz) (hcs : rr.xs[i]? = some cs) (hn : cellsA (strip st.gr (st.ev x)) = some new) (hrf : refs (st.ev x) = []) (hl : new.length = n) (hle : o + n ≤ cs.length)
  (k : K ({ st with gr := upd st.gr kk (some { rr with xs := rr.xs.set i (put1 cs o new) }) }.put dst (.tup []))) : Oper.wp P ⟨dst, .store t p x, type, pos, after, guard⟩ a w (Goes c fr id K) Q := by
 subst hsz
 have ho := oAll_mem hx
 obtain ⟨v, e1, ⟨e2, e2'⟩, e3, e4⟩ := R.row kk rr hg
 obtain ⟨vs, hown, hpv, hS⟩ := e3 hlive
 have rp := R.ev p (ho p (by simp))
 rw [hp] at rp
 generalize hv : a.eval p = pv at rp
 cases Cel.conv rp (by simp) (by simp) (by simp) with
 | pur q => cases q
 | rptr hτ =>
  rename_i h nn cap
  rw [hτ] at e1; cases e1
  rcases hown.2 with ⟨q, _⟩ | ⟨h', cap', cur, q, hb, hh, r1, r2, r3, r4⟩
  ·cases q
  ·cases q
   have hob : Value.ownBlock (.slice (some ⟨h, 0, none⟩) rr.xs.length cap) = some h := rfl
   have hnew := strip_cells R (R.ev x (ho x (by simp))) (fun k hk => by rw [hrf] at hk; cases hk) hn
   have hone : ∀ v ∈ (a.eval x).cells.toList, v.oneCell' = true := by
    have : ∀ {la : List AV} {bs : List Value}, All2 (Pur g.S) la bs → ∀ v ∈ bs, v.oneCell' = true := fun h => by
     induction h with
     | nil => simp
     | cons h _ ih => exact fun v hv => (List.mem_cons.1 hv).elim (fun e => e ▸ h.one) (ih v)
    exact this hnew
   have hlen : (a.eval x).cells.toList.length = n := by rw [← hnew.length]; exact hl
   have hsc : (a.eval x).cells.size = n := by simpa using hlen
   have hi : i < rr.xs.length := (List.getElem?_eq_some_iff.1 hcs).1
   have hcl : cs.length = rr.sz := e2 cs (List.mem_of_getElem? hcs)
   have hfl := flat_len rr.xs e2
   have hvl : vs.length = rr.xs.length * rr.sz := hown.1
   have hii : i * rr.sz + rr.sz ≤ rr.xs.length * rr.sz := by rw [← Nat.succ_mul]; exact Nat.mul_le_mul_right _ hi
   have hcap : rr.xs.length * rr.sz ≤ cur.size := by rw [r3]; exact Nat.mul_le_mul_right _ r1
   have hst := run_storeCells_at P h (i * rr.sz + o) rr.e (a.eval x).cells.toList 0 cur w hh (by simp only [Array.length_toList] at hlen ⊢; omega) hone
   simp only [Nat.add_zero] at hst
   have hr : (execOp a.eval (⟨dst, .store t p x, type, pos, after, guard⟩ : Oper)).run P w = .ok .skip (w.setRow h (cur.toList.take (i * rr.sz + o) ++ (a.eval x).cells.toList ++ cur.toList.drop (i * rr.sz + o + (a.eval x).cells.toList.length)).toArray) := by
    simp only [execOp, hv, Instr.storeAt, Instr.sureAddr, storeVar, Sem.run_bind, Sem.run_pure, Result.andThen_ok, run_sizeOf hs, hsc]
    simp [hst, hlen]
   unfold Oper.wp
   rw [hr]
   refine ⟨_, k, ?_⟩
   have oth : ∀ k, k ≠ h → (w.setRow h (cur.toList.take (i * rr.sz + o) ++ (a.eval x).cells.toList ++ cur.toList.drop (i * rr.sz + o + (a.eval x).cells.toList.length)).toArray).heap[k]? = w.heap[k]? := fun k hk => setRow_other w h k _ hk
   have R1 := R.kill (some kk)
   have hno : ∀ q, ¬ Owns { st with gr := killT st.gr (some kk) } g q h := fun q hq => by
    have hx' : Owns st g q h := by
     obtain ⟨t, j⟩ := q
     cases t with
     | true => exact hq
     | false =>
      obtain ⟨⟨y, h1, h2⟩, z⟩ := hq
      refine ⟨⟨y, ?_, h2⟩, z⟩
      simp only [killT, upd] at h1
      split at h1
      ·cases h1
      ·exact h1
    have := R.inj q (false, kk) h hx' ⟨⟨rr, hg, hlive⟩, _, hτ, hob⟩
    subst this
    obtain ⟨⟨y, h1, _⟩, _⟩ := hq
    simp [killT, upd] at h1
   have R2 := R1.world (w' := w.setRow h (cur.toList.take (i * rr.sz + o) ++ (a.eval x).cells.toList ++ cur.toList.drop (i * rr.sz + o + (a.eval x).cells.toList.length)).toArray) ⟨by simp, by simp, by simp, by simp, fun k hk _ => oth k (by omega)⟩ (agr_other R.agr (hS h hob) oth)
    fun q k hq => oth k (fun e => by subst e; exact hno q hq)
   have hset := flat_set new rr.xs i o cs e2 hcs (by omega)
   have hp' : All2 (Pur g.S) (rr.xs.set i (put1 cs o new)).flatten (vs.take (i * rr.sz + o) ++ (a.eval x).cells.toList ++ vs.drop (i * rr.sz + o + (a.eval x).cells.toList.length)) := by
    rw [hset, hnew.length]
    exact ((hpv.take _).append hnew).append (hpv.drop _)
   have hput : (put1 cs o new).length = rr.sz := by simp only [put1, List.length_append, List.length_take, List.length_drop]; omega
   have hown' : (w.setRow h (cur.toList.take (i * rr.sz + o) ++ (a.eval x).cells.toList ++ cur.toList.drop (i * rr.sz + o + (a.eval x).cells.toList.length)).toArray).ownsRow c.w0.heap.size rr.e rr.sz (.slice (some ⟨h, 0, none⟩) rr.xs.length cap) (rr.xs.set i (put1 cs o new)).length
     (vs.take (i * rr.sz + o) ++ (a.eval x).cells.toList ++ vs.drop (i * rr.sz + o + (a.eval x).cells.toList.length)) := by
    refine ⟨?_, .inr ⟨h, cap, _, by simp, hb, setRow_heap w h cur _ rr.e (0, 0) hh, by simpa using r1, r2, ?_, ?_⟩⟩
    ·simp only [List.length_append, List.length_take, List.length_drop, List.length_set]; omega
    ·simp only [List.size_toArray, List.length_append, List.length_take, List.length_drop, Array.length_toList]; omega
    ·simp only [List.length_set]
     rw [← r4]
     have hct : cur.toList.length = cur.size := by simp
     apply List.ext_getElem?
     intro j
     have hL := hlen
     rw [List.getElem?_take]
     by_cases hj : j < rr.xs.length * rr.sz
     ·rw [if_pos hj]
      by_cases h1 : j < i * rr.sz + o
      ·rw [List.append_assoc, List.getElem?_append_left (by simp; omega), List.getElem?_take_of_lt h1, List.append_assoc, List.getElem?_append_left (by simp; omega), List.getElem?_take_of_lt h1, List.getElem?_take_of_lt hj]
      ·by_cases h2 : j < i * rr.sz + o + (a.eval x).cells.toList.length
       ·rw [List.getElem?_append_left (by simp; omega), List.getElem?_append_right (by simp; omega), List.getElem?_append_left (by simp; omega), List.getElem?_append_right (by simp; omega)]
        congr 1; simp; omega
       ·rw [List.getElem?_append_right (by simp; omega), List.getElem?_drop, List.getElem?_append_right (by simp; omega), List.getElem?_drop, List.getElem?_take]
        rw [if_pos (by simp; omega)]
        congr 1; simp; omega
     ·rw [if_neg hj, List.getElem?_eq_none]
      simp only [List.length_append, List.length_take, List.length_drop]; omega
   have R3 := R2.reRow (e := rr.e) hτ hown' (fun c' hc' => by
    rcases List.mem_or_eq_of_mem_set hc' with h | h
    ·exact e2 c' h
    ·rw [h]; exact hput) hp' (fun h' hh' q hq => by cases hh'; exact hno q hq) (fun h' hh' o => hS h' hh' o)
   have hfin : ({ rr with xs := rr.xs.set i (put1 cs o new) } : GR) = ⟨rr.e, rr.sz, rr.xs.set i (put1 cs o new), true⟩ := by rw [← hlive]
   rw [hfin]
   exact ⟨g, (R3.put hd undef_rep).weak fun i hi => hi.1⟩
theorem elems_rep (R : Rel c fr g st a w) : ∀ {sz : Nat} {ps : List Operand} {xs : List (List AV)}, oAll ps = true → Shut st.gr ((ps.map st.ev).flatMap refs) → elemsOf st.gr sz (ps.map st.ev) = some xs →
  xs.length = ps.length ∧ (∀ c ∈ xs, c.length = sz) ∧ (∀ v ∈ ps.map a.eval, v.cells.size = sz) ∧ All2 (Pur g.S) xs.flatten ((ps.map a.eval).flatMap fun v => v.cells.toList)
 | sz, [], xs, _, _, h => by simp only [List.map_nil, elemsOf, Option.some.injEq] at h; subst h; exact ⟨rfl, by simp, by simp, .nil⟩
 | sz, x :: ps, xs, ho, hs, h => by
  simp only [oAll, List.all_cons, Bool.and_eq_true] at ho
  simp only [List.map_cons, elemsOf] at h
  split at h
  ·rename_i c0 l h1 h2
   split at h
   ·rename_i hl
    cases h
    obtain ⟨i1, i2, i3, i4⟩ := elems_rep R ho.2 (fun k hk => hs k (by simp only [List.map_cons, List.flatMap_cons]; exact List.mem_append_right _ hk)) h2
    have p := strip_cells R (R.ev x ho.1) (fun k hk => hs k (by simp only [List.map_cons, List.flatMap_cons]; exact List.mem_append_left _ hk)) h1
    refine ⟨by simp [i1], fun c hc => ?_, fun v hv => ?_, ?_⟩
    ·exact (List.mem_cons.1 hc).elim (fun e => e ▸ hl) (i2 c)
    ·rcases List.mem_cons.1 hv with rfl | hv
     ·rw [← Array.length_toList, ← p.length]; exact hl
     ·exact i3 v hv
    ·simpa using p.append i4
   ·cases h
  ·cases h
theorem elemsOf_shut {gr : Gr} {ks : List Nat} {sz : Nat} : ∀ {l : List AV}, elemsOf (shut gr ks) sz l = elemsOf gr sz l
 | [] => rfl
 | v :: r => by simp only [elemsOf, strip_shut, elemsOf_shut (l := r)]
theorem rowParts_spec : ∀ {k : Nat} {ps : List (Nat × Operand)} {l : List Operand}, rowParts k ps = some l → ps = (l.zipIdx k).map fun x => (x.2, x.1)
 | k, [], l, h => by simp only [rowParts, Option.some.injEq] at h; subst h; rfl
 | k, (i, x) :: r, l, h => by
  simp only [rowParts] at h
  split at h
  ·rename_i hi; subst hi
   simp only [Option.map_eq_some_iff] at h
   obtain ⟨l', h', rfl⟩ := h
   rw [rowParts_spec h']
   simp
  ·cases h
theorem zip_map (ρ : Operand → Value) : ∀ (l : List Operand) (k : Nat), ((l.zipIdx k).map fun x => (x.2, x.1)).map (fun (p : Nat × Operand) => (p.1, ρ p.2)) = ((l.map ρ).zipIdx k).map fun x => (x.2, x.1)
 | [], _ => rfl
 | x :: l, k => by simp [zip_map ρ l (k + 1)]
theorem op_bs (R0 : Rel c fr g st a w) (hf : fr id) (hd : ∀ i, dst = some i → i < c.n) {t e sz n : Nat} {ps : Array (Nat × Operand)} {l : List Operand} {z : List Value} (he : elemOf' P t = some e) (hs : szOf P e = some sz)
  (hz : zeroOf P e = some z) (hl : rowParts 0 ps.toList = some l) (ho : oAll l = true) (hn : l.length = n) (hzl : z.length = sz) (hpos : 0 < sz) (hsm : n * sz ≤ 2 ^ 24) {xs : List (List AV)} (hx0 : elemsOf st.gr sz (l.map st.ev) = some xs)
  (k : K ({ st with gr := upd (shut st.gr ((l.map st.ev).flatMap refs)) id (some ⟨e, sz, xs, true⟩) }.put dst (.ref id))) : Oper.wp P ⟨dst, .buildSlice t n ps, type, pos, after, guard⟩ a w (Goes c fr id K) Q := by
 obtain ⟨g1, L1, _, _, R⟩ := R0.shuts ((l.map st.ev).flatMap refs)
 have hev : ({ st with gr := shut st.gr ((l.map st.ev).flatMap refs) } : AS).ev = st.ev := by funext x; cases x <;> rfl
 have hx : elemsOf (shut st.gr ((l.map st.ev).flatMap refs)) sz (l.map ({ st with gr := shut st.gr ((l.map st.ev).flatMap refs) } : AS).ev) = some xs := by rw [elemsOf_shut, hev]; exact hx0
 have hsh : Shut (shut st.gr ((l.map st.ev).flatMap refs)) ((l.map ({ st with gr := shut st.gr ((l.map st.ev).flatMap refs) } : AS).ev).flatMap refs) := by rw [hev]; exact shut_shut
 have hu := elemOf_spec he
 obtain ⟨i, zv, hi, hiz, rfl, hall⟩ := zeroOf_spec hz
 have hisz : i.size = sz := by unfold szOf at hs; rw [hi] at hs; simpa using hs
 obtain ⟨x1, x2, x3, x4⟩ := elems_rep R ho hsh hx
 have hps := rowParts_spec hl
 have hargs : (ps.map fun (i, x) => (i, a.eval x)).toList = ((l.map a.eval).zipIdx 0).map fun x => (x.2, x.1) := by
  rw [Array.toList_map, hps]; exact zip_map a.eval l 0
 have hflen : ((l.map a.eval).flatMap fun v => v.cells.toList).length = n * sz := by
  rw [← x4.length, List.length_flatten]
  have : ∀ (xs : List (List AV)), (∀ c ∈ xs, c.length = sz) → (xs.map List.length).sum = xs.length * sz := fun xs h => by
   induction xs with
   | nil => simp
   | cons c xs ih => simp [h c (List.mem_cons_self ..), ih (fun c hc => h c (List.mem_cons_of_mem _ hc)), Nat.add_mul]; omega
  rw [this xs x2, x1, hn]
 have hr : (execOp a.eval (⟨dst, .buildSlice t n ps, type, pos, after, guard⟩ : Oper)).run P w = .ok (.value (.slice (some ⟨w.heap.size, 0, none⟩) n n)) (w.alloc (.cells ((l.map a.eval).flatMap fun v => v.cells.toList).toArray e)) := by
  have hrb : (Instr.buildSlice t n (ps.map fun (i, x) => (i, a.eval x))).run P w = .ok (.slice (some ⟨w.heap.size, 0, none⟩) n n) (w.alloc (.cells ((l.map a.eval).flatMap fun v => v.cells.toList).toArray e)) := by
   by_cases h0 : n = 0
   ·subst h0
    have hl0 : l = [] := List.eq_nil_of_length_eq_zero hn
    subst hl0
    have hp0 : ps = #[] := by
     have : ps.toList = [] := by rw [hps]; rfl
     simpa using this
    subst hp0
    simp [Instr.buildSlice, run_underlying hu, sizeOf, typeInfo, hi, Instr.fill, newRow, show Array.range 0 = #[] from rfl]
   ·refine run_buildSlice w t e n _ _ i zv hu hi hiz (by rw [hisz]; omega) (by rw [hisz]; exact Nat.ne_of_gt (Nat.mul_pos (by omega) hpos)) ?_
    rw [hargs, hisz]
    exact Great.fill_whole hpos _ _ x3 (by simp [hn])
  simp only [execOp, Sem.run_bind, hrb]
  rfl
 refine wp_of_run hr ⟨_, k, ?_⟩
 refine after_row (R.alloc _) hf hd (n := n) (vs := (l.map a.eval).flatMap fun v => v.cells.toList) ⟨hflen, .inr ⟨w.heap.size, n, _, rfl, R.keep.size, heap_alloc_new w _, Nat.le_refl _, ?_, by simp only [List.size_toArray]; exact hflen, ?_⟩⟩
  (fun h hh => ?_) (fun h hh o => ?_) (by rw [x1, hn]) x2 x4
 ·have : n ≤ n * sz := Nat.le_mul_of_pos_right n hpos
  simp only [maxLen]; omega
 ·show List.take (n * sz) _ = _
  rw [← hflen]
  exact List.take_length
 ·cases hh; exact R.unowned (Nat.le_refl _)
 ·cases hh; exact R.none (Nat.le_refl _) o
end
end Go.Proofs.YtnjmilelifmfpaaGreatDoor.Ev

namespace Go.Proofs.YtnjmilelifmfpaaGreatDoor.Ev
open Go Go.RowKit
set_option linter.unusedSimpArgs false
set_option linter.unusedVariables false

theorem hp_old (w : World) (o : Obj) (i : Nat) (h : i < w.heap.size) : (w.alloc o).heap[i]? = w.heap[i]? := by first|exact heap_alloc_old w o i h|exact heap_alloc_old w o h
theorem run_append_own' {P : Program} (w : World) (base : Nat) (t ty e : TypeId) (i : TypeInfo) (z : Value) (size bytes : Nat) (ht : P.underlying t = some (.slice e)) (hi : P.info? e = some i) (hz : i.zero = some z)
  (hsize : i.size = size) (hby : i.bytes = bytes) (hzs : z.cells.size = size) (hsz : 0 < size)
  (v : Value) (n : Nat) (xs : List Value) (hown : w.ownsRow base e size v n xs)
  (a : Addr) (m c : Nat) (news : List Value) (hl : news.length = m * size) (hnews : ∀ j u, news[j]? = some u → w.cell? (a.add j) = some u) (h1 : ∀ u ∈ news, u.oneCell' = true)
  (h63 : n + m ≤ maxLen) (hbytes : (n + m) * bytes ≤ 140737488355328) (hbase : base ≤ w.heap.size) :
  ∃ v' w', (Builtin.append_ #[t, t] ty #[v, .slice (some a) m c]).run P w = .ok v' w' ∧ w'.ownsRow base e size v' (n + m) (xs ++ news) ∧ w.grownBy w' v.ownBlock ∧
   (∀ h, v.ownBlock = some h → ∀ j, j < n * size → w'.cell? ⟨h, j, none⟩ = w.cell? ⟨h, j, none⟩) ∧ (∀ h, v'.ownBlock = some h → v.ownBlock = some h ∨ w.heap.size ≤ h) := by
 subst hsize
 subst hby
 have hsmall : n + m ≤ 9223372036854775807 := by simp only [maxLen] at h63; omega
 have hlen : (xs ++ news).length = (n + m) * i.size := by rw [List.length_append, hown.1, hl, Nat.add_mul]
 have grown : ∀ (old : Nat), old < n + m → ∀ (row : Option Nat),
   (w.drew.alloc (.cells (xs.toArray ++ news.toArray ++ Builtin.zeroCells z.cells (grownCap w (n + m) old e - (n + m))) e)).ownsRow base e i.size
    (.slice (some ⟨w.heap.size, 0, none⟩) (n + m) (grownCap w (n + m) old e)) (n + m) (xs ++ news) ∧
   w.grownBy (w.drew.alloc (.cells (xs.toArray ++ news.toArray ++ Builtin.zeroCells z.cells (grownCap w (n + m) old e - (n + m))) e)) row := by
  intro old ho row
  have hge := grownCap_ge w (n + m) old e
  have hcm : grownCap w (n + m) old e ≤ maxLen := grownCap_le_maxLen w (n + m) old e h63
  refine ⟨⟨hlen, .inr ⟨w.heap.size, _, _, rfl, hbase, heap_alloc_new w.drew _, hge, hcm, ?_, ?_⟩⟩, ⟨rfl, rfl, rfl, by simp, fun k hk _ => hp_old w.drew _ k hk⟩⟩
  ·simp only [Array.size_append, List.size_toArray, size_zeroCells, hzs, hown.1, hl, ← Nat.add_mul]
   congr 1
   omega
  ·simp only [Array.toList_append, List.append_assoc]
   rw [← List.append_assoc, ← hlen]
   exact List.take_left
 rcases hown.2 with ⟨rfl, rfl⟩ | ⟨g, cap, cur, rfl, hbg, hg, hnc, hcm, hcs, htake⟩
 ·have hx : xs = [] := List.eq_nil_of_length_eq_zero (by simpa using hown.1)
  subst hx
  by_cases hm : m = 0
  ·subst hm
   have hn : news = [] := List.eq_nil_of_length_eq_zero (by simpa using hl)
   subst hn
   refine ⟨.slice none 0 0, w, ?_, World.ownsRow_nil w base e i.size, ⟨rfl, rfl, rfl, Nat.le_refl _, fun _ _ _ => rfl⟩, by simp [Value.ownBlock], by simp [Value.ownBlock]⟩
   simp [Builtin.append_, run_underlying ht, sizeOf, typeInfo, hi, Builtin.lenOf, Builtin.firstCells, loadCells, loadCellsFrom]
  ·have hr := run_append_nil (P := P) w t ty e i z ht hi hz a m c news hl hnews (by omega) (by omega) (by have hb := hbytes; simp only [Nat.zero_add] at hb; omega)
   have hgr := grown 0 (by omega) (Value.ownBlock (.slice none 0 0))
   simp only [Nat.zero_add, List.nil_append, Array.empty_append] at hgr ⊢
   exact ⟨_, _, hr, hgr.1, hgr.2, by simp [Value.ownBlock], fun h hh => by cases hh; exact .inr (Nat.le_refl _)⟩
 ·by_cases hroom : n + m ≤ cap
  ·have hfit : n * i.size + news.length ≤ cur.size := by rw [hl, hcs, ← Nat.add_mul]; exact Nat.mul_le_mul_right _ hroom
   have hr := run_append_room (P := P) w t ty e i ht hi g n cap cur hg a m c news hl hnews h1 hroom hfit
   refine ⟨_, _, hr, ⟨hlen, .inr ⟨g, cap, _, rfl, hbg, setRow_heap w g cur _ e _ hg, hroom, hcm, ?_, ?_⟩⟩, ⟨rfl, rfl, rfl, by simp, fun k _ hk => setRow_other w g k _ (fun e => hk (by simp [Value.ownBlock, e]))⟩, fun h hh j hj => ?_, fun h hh => .inl hh⟩
   ·simp only [List.size_toArray, List.length_append, List.length_take, List.length_drop, Array.length_toList]
    omega
   ·rw [htake, ← hlen]
    exact List.take_left
   ·cases hh
    rw [cell_of_row _ g j _ e (0, 0) (setRow_heap w g cur _ e _ hg), cell_of_row w g j cur e (0, 0) hg]
    rw [List.getElem?_toArray, List.append_assoc, List.getElem?_append_left (by simp; omega), List.getElem?_take_of_lt hj]
    simp
  ·have holds : ∀ j u, xs[j]? = some u → w.cell? ((⟨g, 0, none⟩ : Addr).add j) = some u := hown.cells (g := g) rfl
   have hr := run_append_grow (P := P) w t ty e i z ht hi hz ⟨g, 0, none⟩ n cap xs hown.1 holds a m c news hl hnews (by omega) (by omega) (growslice_fits (by omega) hbytes)
   have hgr := grown cap (by omega) (Value.ownBlock (.slice (some ⟨g, 0, none⟩) n cap))
   refine ⟨_, _, hr, hgr.1, hgr.2, fun h hh j hj => ?_, fun h hh => by cases hh; exact .inr (Nat.le_refl _)⟩
   cases hh
   exact World.cell?_of_block (w := w) (hp_old w.drew _ g (lt_of_heap hg))
theorem run_append_nothing {P : Program} (w : World) (t ty e : TypeId) (i : TypeInfo) (ht : P.underlying t = some (.slice e)) (hi : P.info? e = some i) (b A : Option Addr) (n cap c : Nat) (hn : n ≤ cap) :
  (Builtin.append_ #[t, t] ty #[.slice b n cap, .slice A 0 c]).run P w = .ok (.slice b n cap) w := by
 cases b <;> cases A <;> simp [Builtin.append_, run_underlying ht, sizeOf, typeInfo, hi, Builtin.lenOf, Builtin.firstCells, hn, storeCells, loadCells, loadCellsFrom]
end Go.Proofs.YtnjmilelifmfpaaGreatDoor.Ev

namespace Go.Proofs.YtnjmilelifmfpaaGreatDoor.Ev
open Go Go.RowKit
set_option linter.unusedSimpArgs false
set_option linter.unusedVariables false

theorem agr_same {S : Snap} {w w' : World} (hA : Agr S w) (h : ∀ b o v, S b o = some v → w'.heap[b]? = w.heap[b]?) : Agr S w' :=
 ⟨fun b o v e => by rw [World.cell?_of_block (w := w) (h b o v e)]; exact hA.1 b o v e, fun b o v o' v' e e' => by rw [World.cell?_of_block (w := w) (h b o v e)] at e'; exact hA.2 b o v o' v' e e'⟩
section
variable {P : Program} {c : Cx} {fr : Nat → Prop} {g : Gh} {st : AS} {a : Act} {w : World} {dst : Option Tmp} {type : TypeId} {pos : String} {after : Array Edge} {guard : Option (Nat × Bool)}
 {id : Nat} {K : AS → Prop} {Q : Exit → Act → World → Prop}
theorem grow_spec (R : Rel c fr g st a w) {e sz : Nat} {av : AV} {v : Value} {k : Option Nat} {xs : List (List AV)} (r : Rep g av v) (hg : growOf e sz st.gr av = some (k, xs)) :
  ∃ vs, w.ownsRow c.w0.heap.size e sz v xs.length vs ∧ (∀ q ∈ xs, q.length = sz) ∧ All2 (Pur g.S) xs.flatten vs ∧ (∀ h, v.ownBlock = some h → ∀ o, g.S h o = none) ∧
   (∀ h, v.ownBlock = some h → ∃ k', k = some k' ∧ Owns st g (false, k') h) := by
 unfold growOf at hg
 split at hg
 ·cases hg
  have cl := Cel.conv r (by simp) (by simp) (by simp)
  cases cl with
  | pur p => cases p; exact ⟨[], World.ownsRow_nil w _ e sz, by simp, .nil, by simp [Value.ownBlock], by simp [Value.ownBlock]⟩
 ·rename_i k'
  split at hg
  ·rename_i rr hr
   split at hg
   ·rename_i hc
    cases hg
    obtain ⟨rfl, rfl, hl⟩ := hc
    obtain ⟨v0, e1, ⟨e2, _⟩, e3, _⟩ := R.row k' rr hr
    rw [cel_ref r] at e1; cases e1
    obtain ⟨vs, ho, hp, hS⟩ := e3 hl
    exact ⟨vs, ho, e2, hp, hS, fun h hh => ⟨k', rfl, ⟨rr, hr, hl⟩, v, cel_ref r, hh⟩⟩
   ·cases hg
  ·cases hg
 ·cases hg
theorem op_ap (R : Rel c fr g st a w) (hf : fr id) (hd : ∀ i, dst = some i → i < c.n) {t e : TypeId} {x y : Operand} {i : TypeInfo} {z : List Value} (he : elemOf' P t = some e) (hi : P.info? e = some i) (hz : zeroOf P e = some z)
  (ho : oAll [x, y] = true) (hzl : z.length = i.size) (hpos : 0 < i.size) {k : Option Nat} {xs ys : List (List AV)} (hg : growOf e i.size st.gr (st.ev x) = some (k, xs)) (hy : rowOf st.gr (st.ev y) = some ys)
  (hall : (ys.all fun c => c.length == i.size) = true) (hroom : Room (xs.length + ys.length) i.bytes)
  (hK : K ({ st with gr := upd (killT st.gr k) id (some ⟨e, i.size, xs ++ ys, true⟩) }.put dst (.ref id))) :
  Oper.wp P ⟨dst, .call { callee := .builtin .append, args := #[x, y], argTypes := #[t, t] }, type, pos, after, guard⟩ a w (Goes c fr id K) Q := by
 have hom := oAll_mem ho
 have hu := elemOf_spec he
 obtain ⟨i', zv, hi', hiz, rfl, hone⟩ := zeroOf_spec hz
 rw [hi] at hi'; cases hi'
 obtain ⟨vs, hown, hxsz, hxc, hxS, hxo⟩ := grow_spec R (R.ev x (hom x (by simp))) hg
 have hysz : ∀ c ∈ ys, c.length = i.size := by simpa using hall
 have R1 := R.kill k
 have key : ∀ (v' : Value) (w' : World) (news : List Value), (Builtin.append_ #[t, t] type #[a.eval x, a.eval y]).run P w = .ok v' w' → w'.ownsRow c.w0.heap.size e i.size v' (xs.length + ys.length) (vs ++ news) → w.grownBy w' (a.eval x).ownBlock →
   (∀ h, v'.ownBlock = some h → (a.eval x).ownBlock = some h ∨ w.heap.size ≤ h) → All2 (Pur g.S) ys.flatten news →
   Oper.wp P ⟨dst, .call { callee := .builtin .append, args := #[x, y], argTypes := #[t, t] }, type, pos, after, guard⟩ a w (Goes c fr id K) Q := fun v' w' news hrun hown' hgr hblk hyc => by
  have hnot : ∀ q h, Owns { st with gr := killT st.gr k } g q h → (a.eval x).ownBlock ≠ some h := fun q h hq hb => by
   obtain ⟨k', rfl, ho'⟩ := hxo h hb
   have hq' : Owns st g q h := by
    obtain ⟨b, j⟩ := q
    cases b with
    | true => exact hq
    | false =>
     obtain ⟨⟨y, h1, h2⟩, r⟩ := hq
     refine ⟨⟨y, ?_, h2⟩, r⟩
     simp only [killT, upd] at h1
     split at h1
     ·cases h1
     ·exact h1
   have := R.inj q (false, k') h hq' ho'
   subst this
   obtain ⟨⟨y, h1, _⟩, _⟩ := hq
   simp [killT, upd] at h1
  have R2 : Rel c fr g { st with gr := killT st.gr k } a w' := R1.world ⟨hgr.os, hgr.tape, hgr.output, hgr.size, fun j hj _ => hgr.block j (Nat.lt_of_lt_of_le hj R.keep.size) fun hb => by
    have := (hown.lt j hb.symm).1
    omega⟩ (agr_same R.agr fun b o u hS => hgr.block b (R.agr.lt hS) fun hb => by rw [hxS b hb.symm o] at hS; cases hS) fun q h hq => hgr.block h (R1.owned hq).1 fun hb => hnot q h hq hb.symm
  refine wp_of_run (v := v') (w' := w') ?_ ⟨_, hK, ?_⟩
  ·simp [execOp, resolve, invoke, builtin, hrun]
  ·refine after_row R2 hf hd hown' (fun h hh q hq => ?_) (fun h hh o => ?_) (by simp) (fun c hc => (List.mem_append.1 hc).elim (hxsz c) (hysz c)) (by simpa using hxc.append hyc)
   ·rcases hblk h hh with hb | hb
    ·exact hnot q h hq hb
    ·exact R1.unowned hb q hq
   ·rcases hblk h hh with hb | hb
    ·exact hxS h hb o
    ·exact R.none hb o
 rcases rowOf_rep R (R.ev y (hom y (by simp))) hy with ⟨⟨A0, c0, hv⟩, rfl⟩ | ⟨b, o, cap, news, hv, hle, hpn, hcell⟩
 ·have hx : ∃ bs n cp, a.eval x = .slice bs n cp ∧ n ≤ cp := by
   rcases hown.2 with ⟨h, _⟩ | ⟨h, cap', cur, hv', hb, hh, r1, r2, r3, r4⟩
   ·exact ⟨_, _, _, h, Nat.le_refl _⟩
   ·exact ⟨_, _, _, hv', r1⟩
  obtain ⟨bs, n, cp, hx, hn⟩ := hx
  exact key (a.eval x) w [] (by rw [hv, hx]; exact run_append_nothing w t type e i hu hi bs A0 n cp c0 hn) (by simpa using hown) ⟨rfl, rfl, rfl, Nat.le_refl _, fun _ _ _ => rfl⟩ (fun h hh => .inl hh) .nil
 ·have hnl : news.length = ys.length * i.size := by rw [← hpn.length, flat_len ys hysz]
  have hone' : ∀ {la : List AV} {bs : List Value}, All2 (Pur g.S) la bs → ∀ v ∈ bs, v.oneCell' = true := fun h => by
   induction h with
   | nil => simp
   | cons h _ ih => exact fun v hv => (List.mem_cons.1 hv).elim (fun e => e ▸ h.one) (ih v)
  obtain ⟨v', w', q1, q2, q3, q4, q5⟩ := run_append_own' (P := P) w c.w0.heap.size t type e i zv i.size i.bytes hu hi hiz rfl rfl (by simpa using hzl) hpos (a.eval x) xs.length vs hown ⟨b, o, none⟩ ys.length cap news hnl
   (fun j u hj => by rw [Addr.add_lit]; exact hcell j u hj) (hone' hpn)
   (by have := hroom.1; simp only [maxLen]; omega) hroom.2 R.keep.size
  exact key v' w' news (by rw [hv]; exact q1) q2 q3 q5 hpn
theorem run_callFunc {f : FuncId} (h : fnOk P f = true) (args : Array Value) (w : World) : (callFunc f args).run P w = .ok (.enter f args) w := by
 unfold fnOk at h
 cases hq : P.funcs[f]? with
 | none => simp [hq] at h
 | some fn =>
  simp only [hq, Option.map_some, Option.getD_some, Bool.and_eq_true] at h
  have hname' : ¬ fn.name = "runtime.NumGoroutine" := by simpa using h.2
  have hb' : ¬ fn.body = none := by
   have := h.1
   cases hq : fn.body <;> simp [hq] at this ⊢
  simp [callFunc, hq, hname', hb']
theorem headT_stripB {k : Bool} {gr : Gr} {xs : List Operand} {ev : Operand → AV} : headT (xs.map fun x => stripB k gr (ev x)) = none := by
 cases xs with
 | nil => rfl
 | cons x xs =>
  simp only [List.map_cons]
  have hp : ∀ y l, pcell gr y ≠ .tup l := fun y l => by unfold pcell; split <;> first | (intro h; cases h; done) | (split <;> intro h <;> cases h)
  have hs : ∀ y l, strip gr y ≠ .tup l := fun y l => by cases y <;> first|exact hp .any l|exact hp (.s _) l|exact hp (.row _) l|exact hp (.ref _) l|exact hp (.rptr _ _ _ _) l|exact hp (.ptr _ _) l|exact hp (.elt _ _) l | (intro h; cases h)
  have : ∀ y l, stripB k gr y ≠ .tup l := fun y l => by
   cases k with
   | false => exact hs y l
   | true =>
    show stripK gr y ≠ .tup l
    unfold stripK
    split <;> first|exact hs _ l | (intro h; cases h)
  generalize hq : stripB k gr (ev x) = q
  cases q <;> first|rfl|exact absurd hq (this _ _)
theorem headT_strip {gr : Gr} {xs : List Operand} {ev : Operand → AV} : headT (xs.map fun x => strip gr (ev x)) = none := by
 cases xs with
 | nil => rfl
 | cons x xs =>
  simp only [List.map_cons]
  have : ∀ y : AV, ∀ l, strip gr y ≠ .tup l := fun y l => by
   have hp : pcell gr y ≠ .tup l := by unfold pcell; split <;> first | (intro h; cases h; done) | (split <;> intro h <;> cases h)
   cases y <;> first|exact hp | (intro h; cases h)
  generalize hq : strip gr (ev x) = q
  cases q <;> first|rfl|exact absurd hq (this _ _)
theorem com_flat {S : Snap} {g : Gh} : ∀ {v : AV} {x : Value}, flat1 v = true → Com (g0 S) v x → Com g v x
 | .s _, _, _, .cel (.pur (.s h)) => .cel (.pur (.s h))
theorem coms_flat {S : Snap} {g : Gh} : ∀ {cs : List AV} {vs : List Value}, cs.all flat1 = true → All2 (Com (g0 S)) cs vs → All2 (Com g) cs vs
 | _, _, _, .nil => .nil
 | _, _, h, .cons x k => by
  simp only [List.all_cons, Bool.and_eq_true] at h
  exact .cons (com_flat h.1 x) (coms_flat h.2 k)
theorem rep_flat {S : Snap} {g : Gh} {v : AV} {x : Value} (h : flat v = true) (r : Rep (g0 S) v x) : Rep g v x := by
 cases r with
 | com c =>
  cases v with
  | s x => exact .com (com_flat rfl c)
  | tup l => cases c with | cel c => cases c with | pur p => cases p
  | _ => cases h
 | tup cs => exact .tup (coms_flat h cs)
 | any => exact .any
theorem op_call {J : JW} {E : Env} (hE : Ok P J E) (hhn : E.hn = c.gs.length ∧ J.lo ≤ c.w0.heap.size ∧ ∀ h ∈ c.gs, J.lo ≤ h) (R0 : Rel c fr g st a w) (hJ : J w) (hd : ∀ i, dst = some i → i < c.n) {f : FuncId} {args : Array Operand} {ts : Array TypeId} (ho : oAll args.toList = true)
  (hfn : fnOk P f = true) {kk : Bool} {out : AOut} (he0 : E f (args.toList.map fun x => stripB kk st.gr (st.ev x)) out) {X : AV → Prop}
  (hK : out.on (fun v => K ({ st with gr := shut st.gr (lent v ((args.toList.map st.ev).flatMap refs)) }.put dst v)) (fun v => ∃ p, panV E.hn st.bx v = some p ∧ X p)) (hX : ∀ x p a w, X p → PanR c p x w → a.defers = [] → Keep c.w0.heap.size c.gs c.w0 w → Q (.panic [{ v := x, recovered := false }]) a w) :
  Oper.wp P ⟨dst, .call { callee := .value (.func f), args, argTypes := ts }, type, pos, after, guard⟩ a w (Goes c fr id K) Q := by
 have hrun : (execOp a.eval (⟨dst, .call { callee := .value (.func f), args, argTypes := ts }, type, pos, after, guard⟩ : Oper)).run P w = .ok (.enter f (args.toList.map a.eval).toArray) w := by
  have harr : (args.toList.map a.eval).toArray = args.map a.eval := by rw [← Array.toList_map]
  rw [harr]
  simp [execOp, resolve, invoke, Deferred.ofValue, Act.eval, run_callFunc hfn]
 obtain ⟨g1, L1, _, _, R⟩ := R0.shuts ((args.toList.map st.ev).flatMap refs)
 have hev : ({ st with gr := shut st.gr ((args.toList.map st.ev).flatMap refs) } : AS).ev = st.ev := by funext x; cases x <;> rfl
 have hargs := args_rep R kk ho (by rw [hev]; exact shut_shut)
 simp only [hev, stripB_shut] at hargs
 unfold Oper.wp
 rw [hrun]
 have hok := (hE f _ _ he0).2
 rw [OkAt, headT_stripB] at hok
 refine Calls.mono (hok g1.S w _ hJ R.agr hargs) fun e w' hp => ?_
 cases out with
 | ret v =>
  cases e with
  | returned x =>
   obtain ⟨S', h1, h2, h3, h4, h5⟩ := hp
   replace hK : K ({ st with gr := shut st.gr (lent v ((args.toList.map st.ev).flatMap refs)) }.put dst v) := hK
   unfold lent at hK
   cases hf : flat v with
   | true =>
    rw [hf] at hK
    simp only [show shut st.gr [] = st.gr from funext fun k => if_neg (by simp)] at hK
    exact ⟨_, hK, after_pure (R0.step h4) hd (rep_flat hf h5)⟩
   | false =>
   rw [hf] at hK
   have R1 := R.step h4
   have R2 := R1.ext (S' := S') h1 h3 fun b o hne => by
    have : ¬ b < w.heap.size := fun hlt => hne (h2 b o hlt)
    exact ⟨Nat.le_trans R.keep.size (by omega), fun x => R.unowned (by omega) x⟩
   exact ⟨_, hK, after_pure R2 hd (h5.mono (g0_le (S := S') (g := { g1 with S := S' }) (SLe.refl _)))⟩
  | panicked ch => exact hp.elim
  | outgrown => exact hp.elim
 | pan v =>
  cases e with
  | returned x => exact hp.elim
  | panicked ch =>
   obtain ⟨x, rfl, rfl, h4⟩ := hp
   obtain ⟨p, hp, hx⟩ := hK
   exact hX x p a w' hx (Rel.panR (R.step h4) hhn.1 hp) R.defers (R.keep.trans (.of_below' h4 R.keep.size))
  | outgrown => exact hp.elim
theorem op_pan (R : Rel c fr g st a w) {x : Operand} (ho : oOk x = true) {t : TypeId} {v : Value} (hx : st.ev x = .s (.iface t v)) {X : AV → Prop} {hn : Nat} (hhn : hn = c.gs.length) {p : AV} (hp : panV hn st.bx (.s (.iface t v)) = some p) (hK : X p)
  (hX : ∀ x p a w, X p → PanR c p x w → a.defers = [] → Keep c.w0.heap.size c.gs c.w0 w → Q (.panic [{ v := x, recovered := false }]) a w) : Oper.wp P ⟨dst, .panic x, type, pos, after, guard⟩ a w (Goes c fr id K) Q := by
 have e : a.eval x = .iface t v := sc_rep (R.ev x ho) (by rw [hx]; rfl)
 unfold Oper.wp
 simp only [execOp, e, Instr.panic, Sem.run_bind, run_goPanic, Result.andThen_halt, Oper.upon]
 exact hX _ p a w hK (R.panR hhn hp) R.defers R.keep
theorem nodup_of {l : List Nat} (h : ∀ (i j b : Nat), l[i]? = some b → l[j]? = some b → i = j) : l.Nodup := by
 induction l with
 | nil => simp
 | cons x l ih =>
  refine List.nodup_cons.2 ⟨fun hm => ?_, ih fun i j b h1 h2 => by have := h (i + 1) (j + 1) b (by simpa using h1) (by simpa using h2); omega⟩
  obtain ⟨j, hj⟩ := List.mem_iff_getElem?.1 hm
  have := h 0 (j + 1) x rfl (by simpa using hj)
  omega
theorem of_nodup : ∀ {l : List Nat}, l.Nodup → ∀ {i j b : Nat}, l[i]? = some b → l[j]? = some b → i = j
 | [], _, i, j, b, h1, _ => by simp at h1
 | x :: l, h, i, j, b, h1, h2 => by
  have h' := List.nodup_cons.1 h
  cases i with
  | zero =>
   cases j with
   | zero => rfl
   | succ j => simp at h1 h2; subst h1; exact absurd (List.mem_of_getElem? h2) h'.1
  | succ i =>
   cases j with
   | zero => simp at h1 h2; subst h2; exact absurd (List.mem_of_getElem? h1) h'.1
   | succ j => rw [of_nodup h'.2 (i := i) (j := j) (by simpa using h1) (by simpa using h2)]
theorem nub_nodup : ∀ l : List Nat, (nub l).Nodup
 | [] => by simp [nub]
 | x :: l => by
  simp only [nub]
  refine List.nodup_cons.2 ⟨by simp, (nub_nodup l).filter _⟩
theorem conts_get {bx : Nat → Option (List AV)} : ∀ {hs : List Nat} {css : List (List AV)}, conts bx hs = some css → css.length = hs.length ∧ ∀ (j b : Nat), hs[j]? = some b → ∃ cs, css[j]? = some cs ∧ bx b = some cs
 | [], css, h => by simp only [conts, Option.some.injEq] at h; subst h; simp
 | h0 :: hs, css, h => by
  simp only [conts] at h
  split at h
  ·rename_i cs l h1 h2
   cases h
   obtain ⟨e, f⟩ := conts_get h2
   refine ⟨by simp [e], fun j b hj => ?_⟩
   cases j with
   | zero => simp at hj; subst hj; exact ⟨cs, rfl, h1⟩
   | succ j => simpa using f j b (by simpa using hj)
  ·cases h
theorem setBx_get {bx : Nat → Option (List AV)} : ∀ {hs : List Nat} {css : List (List AV)} {b : Nat} {cs : List AV}, css.length = hs.length → setBx bx hs css b = some cs → (∃ j : Nat, hs[j]? = some b ∧ css[j]? = some cs) ∨ (b ∉ hs ∧ bx b = some cs)
 | [], [], b, cs, _, h => .inr ⟨by simp, h⟩
 | h0 :: hs, c0 :: css, b, cs, hl, h => by
  simp only [setBx, upd] at h
  split at h
  ·rename_i e; subst e; cases h; exact .inl ⟨0, rfl, rfl⟩
  ·rename_i e
   rcases setBx_get (by simpa using hl) h with ⟨j, h1, h2⟩ | ⟨h1, h2⟩
   ·exact .inl ⟨j + 1, by simpa using h1, by simpa using h2⟩
   ·exact .inr ⟨by simp [e, h1], h2⟩
theorem setBx_ne {bx : Nat → Option (List AV)} : ∀ {hs : List Nat} {css : List (List AV)} {b : Nat}, css.length = hs.length → setBx bx hs css b ≠ none → b ∈ hs ∨ bx b ≠ none
 | [], [], b, _, h => .inr h
 | h0 :: hs, c0 :: css, b, hl, h => by
  simp only [setBx, upd] at h
  split at h
  ·rename_i e; exact .inl (by simp [e])
  ·rcases setBx_ne (by simpa using hl) h with h | h
   ·exact .inl (List.mem_cons_of_mem _ h)
   ·exact .inr h
theorem Rel.blocks (R : Rel c fr g st a w) : ∀ {hs : List Nat} {css : List (List AV)}, conts st.bx hs = some css → ∃ bl : List Nat, bl.length = hs.length ∧ ∀ (j b : Nat), hs[j]? = some b → ∃ h, g.ι b = some h ∧ bl[j]? = some h
 | [], css, _ => ⟨[], rfl, by simp⟩
 | h0 :: hs, css, h => by
  simp only [conts] at h
  split at h
  ·rename_i cs l h1 h2
   obtain ⟨bl, e, f⟩ := R.blocks h2
   obtain ⟨h', vs, T, k1, _⟩ := R.box h0 cs h1
   refine ⟨h' :: bl, by simp [e], fun j b hj => ?_⟩
   cases j with
   | zero => simp at hj; subst hj; exact ⟨h', k1, rfl⟩
   | succ j => simpa using f j b (by simpa using hj)
  ·cases h
theorem Rel.blocks_nodup (R : Rel c fr g st a w) {hs bl : List Nat} {css : List (List AV)} (hc : conts st.bx hs = some css) (nd : hs.Nodup) (hl : bl.length = hs.length) (hb : ∀ (j b : Nat), hs[j]? = some b → ∃ h, g.ι b = some h ∧ bl[j]? = some h) : bl.Nodup := by
 refine nodup_of fun i j h e1 e2 => ?_
 have hi' : i < hs.length := by rw [← hl]; exact (List.getElem?_eq_some_iff.1 e1).1
 have hj' : j < hs.length := by rw [← hl]; exact (List.getElem?_eq_some_iff.1 e2).1
 obtain ⟨h1, p1, q1⟩ := hb i _ (List.getElem?_eq_getElem hi')
 obtain ⟨h2, p2, q2⟩ := hb j _ (List.getElem?_eq_getElem hj')
 rw [e1] at q1; cases q1
 rw [e2] at q2; cases q2
 obtain ⟨_, _, b1⟩ := (conts_get hc).2 i _ (List.getElem?_eq_getElem hi')
 obtain ⟨_, _, b2⟩ := (conts_get hc).2 j _ (List.getElem?_eq_getElem hj')
 have := R.inj (true, hs[i]) (true, hs[j]) h ⟨by simp [b1], p1⟩ ⟨by simp [b2], p2⟩
 simp only [Prod.mk.injEq, true_and] at this
 exact of_nodup nd (List.getElem?_eq_getElem hi') (by rw [this]; exact List.getElem?_eq_getElem hj')
theorem Rel.handed (R : Rel c fr g st a w) {lo : Nat} (l1 : lo ≤ c.w0.heap.size) (l2 : ∀ h ∈ c.gs, lo ≤ h) {hs bl : List Nat} {css : List (List AV)} (hc : conts st.bx hs = some css) (nd : hs.Nodup) (hl : bl.length = hs.length) (hb : ∀ (j b : Nat), hs[j]? = some b → ∃ h, g.ι b = some h ∧ bl[j]? = some h)
  (hsh : Shut st.gr (css.flatten.flatMap refC)) : Handed lo g.S w bl (css.map fun cs => .agg (cs.map (pcell st.gr))) := by
 have ge : ∀ h ∈ bl, lo ≤ h := fun h hm => by
  obtain ⟨j, hj⟩ := List.mem_iff_getElem?.1 hm
  have hjl : j < hs.length := by rw [← hl]; exact (List.getElem?_eq_some_iff.1 hj).1
  obtain ⟨h', p1, p2⟩ := hb j _ (List.getElem?_eq_getElem hjl)
  rw [hj] at p2; cases p2
  obtain ⟨cs', _, q2⟩ := (conts_get hc).2 j _ (List.getElem?_eq_getElem hjl)
  rcases (R.owned (x := (true, hs[j])) ⟨by simp [q2], p1⟩).2 with h | h
  ·omega
  ·exact l2 _ h
 refine ⟨ge, R.blocks_nodup hc nd hl hb, by simp [(conts_get hc).1, hl], fun j x h hx hh => ?_⟩
 rw [List.getElem?_map, Option.map_eq_some_iff] at hx
 obtain ⟨cs, hj, rfl⟩ := hx
 have hjl : j < hs.length := by rw [← hl]; exact (List.getElem?_eq_some_iff.1 hh).1
 obtain ⟨h', p1, p2⟩ := hb j _ (List.getElem?_eq_getElem hjl)
 rw [hh] at p2; cases p2
 obtain ⟨cs', q1, q2⟩ := (conts_get hc).2 j _ (List.getElem?_eq_getElem hjl)
 rw [hj] at q1; cases q1
 obtain ⟨h2, vs, T, k1, k2, k3, k4, k5⟩ := R.box _ _ q2
 rw [p1] at k1; cases k1
 exact ⟨_, vs, T, rfl, k3, pcells_pur R k4 fun y hy k hk => hsh k (List.mem_flatMap.2 ⟨y, List.mem_flatten.2 ⟨cs, List.mem_of_getElem? hj, hy⟩, hk⟩), k5⟩
theorem Rel.back (R : Rel c fr g st a w) {hs bl : List Nat} {css : List (List AV)} (hc : conts st.bx hs = some css) (nd : hs.Nodup) (hl : bl.length = hs.length) (hb : ∀ (j b : Nat), hs[j]? = some b → ∃ h, g.ι b = some h ∧ bl[j]? = some h)
  {S' : Snap} {w' : World} {css' : List (List AV)} (hcl : css'.length = hs.length) (hE : HandEnd g.S w bl S' w' (css'.map .agg)) (hk : Keep w.heap.size bl w w') : Rel c fr { g with S := S' } { st with bx := setBx st.bx hs css' } a w' := by
 obtain ⟨e1, e2, e3, ds, e4, e5, e6⟩ := hE
 have : ds = css' := by
  have : ∀ l m : List (List AV), l.map AV.agg = m.map AV.agg → l = m := fun l => by
   induction l with
   | nil => intro m h; cases m <;> simp at h ⊢
   | cons x l ih => intro m h; cases m with
    | nil => simp at h
    | cons y m => simp only [List.map_cons, List.cons.injEq, AV.agg.injEq] at h; rw [h.1, ih m h.2]
  exact (this _ _ e4).symm
 subst this
 have L : g.Le { g with S := S' } := ⟨e1, fun _ _ h => h, fun _ _ h => h⟩
 have pres : ∀ j b, hs[j]? = some b → ∃ h cs, g.ι b = some h ∧ bl[j]? = some h ∧ st.bx b = some cs := fun j b hj => by
  obtain ⟨h, p1, p2⟩ := hb j b hj
  obtain ⟨cs, _, q⟩ := (conts_get hc).2 j b hj
  exact ⟨h, cs, p1, p2, q⟩
 have inbl : ∀ h, h ∈ bl → ∃ b, Owns st g (true, b) h ∧ b ∈ hs := fun h hm => by
  obtain ⟨j, hj⟩ := List.mem_iff_getElem?.1 hm
  have hjl : j < hs.length := by rw [← hl]; exact (List.getElem?_eq_some_iff.1 hj).1
  obtain ⟨h', cs, p1, p2, p3⟩ := pres j _ (List.getElem?_eq_getElem hjl)
  rw [hj] at p2; cases p2
  exact ⟨_, ⟨by simp [p3], p1⟩, List.getElem_mem hjl⟩
 have own : ∀ x h, Owns { st with bx := setBx st.bx hs ds } { g with S := S' } x h → Owns st g x h := fun x h => by
  obtain ⟨t, i⟩ := x
  cases t with
  | false => exact fun k => k
  | true =>
   rintro ⟨h1, h2⟩
   refine ⟨?_, h2⟩
   rcases setBx_ne hcl h1 with h | h
   ·obtain ⟨j, hj⟩ := List.mem_iff_getElem?.1 h
    obtain ⟨_, cs, _, _, p3⟩ := pres j _ hj
    simp [p3]
   ·exact h
 have snone : ∀ x h, Owns st g x h → (∀ o, g.S h o = Option.none) → ∀ o, S' h o = Option.none := fun x h ho hs o => by rw [e2 h o (R.owned ho).1]; exact hs o
 refine ⟨R.size, R.defers, R.keep.trans ⟨hk.os, hk.tape, hk.output, hk.size, fun k hk1 hk2 => hk.block k (Nat.lt_of_lt_of_le hk1 R.keep.size) fun hm => ?_⟩, R.sle.trans e1, fun b o hbo => (e2 b o (Nat.lt_of_lt_of_le hbo R.keep.size)).trans (R.old b o hbo),
  e3, fun i => (R.tmp i).mono L, fun b cs hbx => ?_, fun k r hr => ?_, fun x y h hx hy => R.inj x y h (own x h hx) (own y h hy), R.free, R.hand⟩
 ·obtain ⟨b, ho, _⟩ := inbl k hm
  rcases (R.owned ho).2 with h | h
  ·omega
  ·exact hk2 h
 ·rcases setBx_get hcl hbx with ⟨j, h1, h2⟩ | ⟨h1, h2⟩
  ·obtain ⟨h, cs0, p1, p2, p3⟩ := pres j b h1
   obtain ⟨h', vs, T, k1, k2, k3, k4, k5⟩ := R.box b cs0 p3
   rw [p1] at k1; cases k1
   obtain ⟨vs', T', q1, q2⟩ := e6 j cs h h2 p2
   exact ⟨h, vs', T', p1, k2, q1, q2.imp fun _ _ p => .pur p, snone (true, b) h ⟨by simp [p3], p1⟩ k5⟩
  ·obtain ⟨h', vs, T, k1, k2, k3, k4, k5⟩ := R.box b cs h2
   have hno : h' ∉ bl := fun hm => by
    obtain ⟨b', ho, hb'⟩ := inbl h' hm
    have := R.inj (true, b) (true, b') h' ⟨by simp [h2], k1⟩ ho
    simp only [Prod.mk.injEq, true_and] at this
    exact h1 (this ▸ hb')
   exact ⟨h', vs, T, k1, k2, by rw [hk.block h' (lt_of_heap k3) hno]; exact k3, k4.imp fun _ _ x => x.mono L, snone (true, b) h' ⟨by simp [h2], k1⟩ k5⟩
 ·obtain ⟨v, f1, f2, f3, f4⟩ := R.row k r hr
  refine ⟨v, f1, f2, fun hv => ?_, fun hv => (f4 hv).mono e1⟩
  obtain ⟨vs, hown, hp, hS⟩ := f3 hv
  refine ⟨vs, ⟨hown.1, ?_⟩, hp.imp fun _ _ p => p.mono e1, fun h hh => snone (false, k) h ⟨⟨r, hr, hv⟩, v, f1, hh⟩ (hS h hh)⟩
  rcases hown.2 with h | ⟨h, cap, cur, hv', hb', hh, r'⟩
  ·exact .inl h
  ·have ho : Owns st g (false, k) h := ⟨⟨r, hr, hv⟩, v, f1, by rw [hv']; rfl⟩
   refine .inr ⟨h, cap, cur, hv', hb', ?_, r'⟩
   rw [hk.block h (lt_of_heap hh) fun hm => ?_]
   ·exact hh
   ·obtain ⟨b, ho', _⟩ := inbl h hm
    have := R.inj _ _ h ho ho'
    cases this
theorem tgt_rep {x : AV} {v : Value} {f : FuncId} {ys zs : List AV} (h : Rep g x v) (k : tgt x = some (f, ys, zs)) : ∃ us vs, v = .func (.func f) us.toArray vs.toArray ∧ All2 (Cel g) ys us ∧ All2 (Cel g) zs vs := by
 unfold tgt at k
 split at k
 ·rename_i f' p q
  split at k
  ·rename_i hs
   cases k
   have hp : p = #[] := Array.eq_empty_of_size_eq_zero hs.1
   have hq : q = #[] := Array.eq_empty_of_size_eq_zero hs.2
   subst hp hq
   have : v = .func (.func f) #[] #[] := sc_rep h rfl
   subst this
   exact ⟨[], [], rfl, .nil, .nil⟩
  ·cases k
 ·cases k
  cases h with
  | com cm => cases cm with
   | cel cl => cases cl with | pur p => cases p
   | fn xs ys => exact ⟨_, _, rfl, xs, ys⟩
 ·cases k
theorem headT_map {gr : Gr} {l : List AV} : headT (l.map (strip gr)) = none := by
 have := headT_strip (gr := gr) (xs := l.map fun _ => Operand.func 0) (ev := fun _ => .any)
 cases l with
 | nil => rfl
 | cons x l =>
  have h2 := headT_strip (gr := gr) (xs := [Operand.func 0]) (ev := fun _ => x)
  simp only [List.map_cons, List.map_nil] at h2 ⊢
  revert h2
  cases strip gr x <;> simp [headT]
theorem op_callh {J : JW} {E : Env} (hE : Ok P J E) (hhn : E.hn = c.gs.length ∧ J.lo ≤ c.w0.heap.size ∧ ∀ h ∈ c.gs, J.lo ≤ h) (R0 : Rel c fr g st a w) (hJ : J w) (hd : ∀ i, dst = some i → i < c.n) {x : Operand} {args : Array Operand} {ts : Array TypeId} (hx : oOk x = true) (ho : oAll args.toList = true)
  {f : FuncId} {ys zs : List AV} {css : List (List AV)} {out : AOut} (ht : tgt (st.ev x) = some (f, ys, zs)) (hc : conts st.bx (nub ((ys ++ args.toList.map st.ev ++ zs).flatMap boxesOf)) = some css)
  (he : E f (argsH st.gr (nub ((ys ++ args.toList.map st.ev ++ zs).flatMap boxesOf)) css (ys ++ args.toList.map st.ev ++ zs)) out) {X : AV → Prop}
  (hK : out.onH (nub ((ys ++ args.toList.map st.ev ++ zs).flatMap boxesOf))
    (fun v css' => K ({ st with bx := setBx st.bx (nub ((ys ++ args.toList.map st.ev ++ zs).flatMap boxesOf)) css', gr := shut st.gr ((ys ++ args.toList.map st.ev ++ zs).flatMap refs ++ css.flatten.flatMap refC) }.put dst v))
    (fun v css' => ∃ p, panV E.hn (setBx st.bx (nub ((ys ++ args.toList.map st.ev ++ zs).flatMap boxesOf)) css') v = some p ∧ X p))
  (hX : ∀ x p a w, X p → PanR c p x w → a.defers = [] → Keep c.w0.heap.size c.gs c.w0 w → Q (.panic [{ v := x, recovered := false }]) a w) :
  Oper.wp P ⟨dst, .call { callee := .value x, args, argTypes := ts }, type, pos, after, guard⟩ a w (Goes c fr id K) Q := by
 obtain ⟨hfn, hok⟩ := hE f _ _ he
 obtain ⟨us, vs, hv, hys, hzs⟩ := tgt_rep (R0.ev x hx) ht
 have hall0 : All2 (Rep g) (ys ++ args.toList.map st.ev ++ zs) (us ++ args.toList.map a.eval ++ vs) := by
  refine ((hys.imp fun _ _ c => rep_cel c).append ?_).append (hzs.imp fun _ _ c => rep_cel c)
  have : ∀ l : List Operand, oAll l = true → All2 (Rep g) (l.map st.ev) (l.map a.eval) := fun l => by
   induction l with
   | nil => intro _; exact .nil
   | cons y l ih => intro h; simp only [oAll, List.all_cons, Bool.and_eq_true] at h; exact .cons (R0.ev y h.1) (ih h.2)
  exact this _ ho
 have hrun : (execOp a.eval (⟨dst, .call { callee := .value x, args, argTypes := ts }, type, pos, after, guard⟩ : Oper)).run P w = .ok (.enter f (us ++ args.toList.map a.eval ++ vs).toArray) w := by
  have harr : (us ++ args.toList.map a.eval ++ vs).toArray = us.toArray ++ args.map a.eval ++ vs.toArray := by
   apply Array.toList_inj.1; simp
  rw [harr]
  simp [execOp, resolve, hv, invoke, Deferred.ofValue, run_callFunc hfn]
 obtain ⟨g1, L1, i1, _, R⟩ := R0.shuts ((ys ++ args.toList.map st.ev ++ zs).flatMap refs ++ css.flatten.flatMap refC)
 have hall : All2 (Rep g1) (ys ++ args.toList.map st.ev ++ zs) (us ++ args.toList.map a.eval ++ vs) := hall0.imp fun _ _ r => r.mono L1
 have hsh1 : ∀ y ∈ ys ++ args.toList.map st.ev ++ zs, Shut (shut st.gr ((ys ++ args.toList.map st.ev ++ zs).flatMap refs ++ css.flatten.flatMap refC)) (refs y) := fun y hy k hk => shut_shut k (List.mem_append_left _ (List.mem_flatMap.2 ⟨y, hy, hk⟩))
 have hsh2 : Shut (shut st.gr ((ys ++ args.toList.map st.ev ++ zs).flatMap refs ++ css.flatten.flatMap refC)) (css.flatten.flatMap refC) := fun k hk => shut_shut k (List.mem_append_right _ hk)
 unfold Oper.wp
 rw [hrun]
 revert hc he hK R hsh1 hsh2 hok
 generalize (ys ++ args.toList.map st.ev ++ zs).flatMap refs ++ css.flatten.flatMap refC = ks
 have hnd := nub_nodup ((ys ++ args.toList.map st.ev ++ zs).flatMap boxesOf)
 revert hnd
 generalize nub ((ys ++ args.toList.map st.ev ++ zs).flatMap boxesOf) = hs
 revert hall
 generalize ys ++ args.toList.map st.ev ++ zs = L
 generalize us ++ args.toList.map a.eval ++ vs = V
 intro hall hnd hc he hK hok R hsh1 hsh2
 cases hs with
 | nil =>
  simp only [argsH, OkAt] at hok
  rw [headT_map] at hok
  have hargs := sargs_rep R hall hsh1
  simp only [show strip (shut st.gr ks) = strip st.gr from funext fun _ => strip_shut] at hargs
  refine Calls.mono (hok g1.S w _ hJ R.agr hargs) fun e w' hp => ?_
  have hsb : ∀ l, setBx st.bx [] l = st.bx := fun l => by cases l <;> rfl
  simp only [hsb] at hK
  cases out with
  | ret v =>
   cases e with
   | returned x =>
    obtain ⟨S', h1, h2, h3, h4, h5⟩ := hp
    have R1 := R.step h4
    have R2 := R1.ext (S' := S') h1 h3 fun b o hne => by
     have : ¬ b < w.heap.size := fun hlt => hne (h2 b o hlt)
     exact ⟨Nat.le_trans R.keep.size (by omega), fun x => R.unowned (by omega) x⟩
    exact ⟨_, hK, after_pure R2 hd (h5.mono (g0_le (S := S') (g := { g1 with S := S' }) (SLe.refl _)))⟩
   | panicked ch => exact hp.elim
   | outgrown => exact hp.elim
  | pan v =>
   cases e with
   | returned x => exact hp.elim
   | panicked ch =>
    obtain ⟨x, rfl, rfl, h4⟩ := hp
    obtain ⟨p, hp, hx⟩ := hK
    exact hX x p a w' hx (Rel.panR (R.step h4) hhn.1 hp) R.defers (R.keep.trans (.of_below' h4 R.keep.size))
   | outgrown => exact hp.elim
 | cons h0 hs =>
  have hc' : conts ({ st with gr := shut st.gr ks } : AS).bx (h0 :: hs) = some css := hc
  obtain ⟨bl, hl, hb⟩ := R.blocks hc'
  have hH := R.handed hhn.2.1 hhn.2.2 hc' hnd hl hb hsh2
  have hargs := hargs_rep R hb hall hsh1
  simp only [show pcell (shut st.gr ks) = pcell st.gr from funext fun _ => pcell_shut] at hH
  have hhc : hcell (shut st.gr ks) (h0 :: hs) = hcell st.gr (h0 :: hs) := funext fun y => by unfold hcell; split <;> first|rfl|exact pcell_shut
  simp only [show hstrip (shut st.gr ks) (h0 :: hs) = hstrip st.gr (h0 :: hs) from funext fun y => by unfold hstrip; split <;> first | (rw [hhc])|exact strip_shut] at hargs
  simp only [argsH, OkAt, headT] at hok
  refine Calls.mono (hok g1.S w bl _ hJ R.agr hH hargs) fun e w' hp => ?_
  cases out with
  | ret v =>
   obtain ⟨u, css', rfl, hcl, hK⟩ := hK
   cases e with
   | returned x =>
    obtain ⟨S', h1, h2, h3⟩ := hp
    have R1 := R.back hc' hnd hl hb hcl h1 h2
    exact ⟨_, hK, after_pure R1 hd (h3.mono (g0_le (S := S') (g := { g1 with S := S' }) (SLe.refl _)))⟩
   | panicked ch => exact hp.elim
   | outgrown => exact hp.elim
  | pan v =>
   obtain ⟨u, css', rfl, hcl, p, hp2, hx⟩ := hK
   cases e with
   | returned x => exact hp.elim
   | panicked ch =>
    obtain ⟨S', x, rfl, rfl, h1, h2⟩ := hp
    have R1 := R.back hc' hnd hl hb hcl h1 h2
    exact hX x p a w' hx (Rel.panR R1 hhn.1 hp2) R.defers R1.keep
   | outgrown => exact hp.elim
theorem pur_zero {S : Snap} : ∀ {l : List Value}, l.all Value.oneCell' = true → All2 (Pur S) (l.map .s) l
 | [], _ => .nil
 | v :: l, h => by
  simp only [List.all_cons, Bool.and_eq_true] at h
  exact .cons (.s h.1) (pur_zero h.2)
theorem pur_zeros {S : Snap} {z : List Value} (h : z.all Value.oneCell' = true) : ∀ m, All2 (Pur S) (List.replicate m (z.map .s)).flatten (List.replicate m z).flatten
 | 0 => .nil
 | m + 1 => by
  rw [List.replicate_succ, List.replicate_succ, List.flatten_cons, List.flatten_cons]
  exact (pur_zero h).append (pur_zeros h m)
theorem made_flat (cells : Array Value) (sz : Nat) (hsz : cells.size = sz) (hpos : 0 < sz) (m : Nat) : (madeCells cells (m * sz)).toList = (List.replicate m cells.toList).flatten := by
 have e1 : ∀ k, (List.replicate k cells.toList).flatten.length = k * sz := fun k => by simp [List.length_flatten, hsz]
 have e2 : ∀ k j, j < k * sz → (List.replicate k cells.toList).flatten[j]? = some (cells[j % cells.size]!) := fun k => by
  induction k with
  | zero => intro j hj; simp at hj
  | succ k ih =>
   intro j hj
   rw [List.replicate_succ, List.flatten_cons]
   by_cases h : j < sz
   ·rw [List.getElem?_append_left (by simp [hsz, h]), Nat.mod_eq_of_lt (by omega)]
    have : j < cells.size := by omega
    simp [this]
   ·rw [List.getElem?_append_right (by simp [hsz]; omega)]
    have hj' : j - sz < k * sz := by rw [Nat.succ_mul] at hj; omega
    have := ih (j - sz) hj'
    simp only [Array.length_toList, hsz] at this ⊢
    rw [this, show j % sz = (j - sz) % sz by rw [← Nat.mod_eq_sub_mod (by omega)]]
 apply List.ext_getElem?
 intro j
 by_cases hj : j < m * sz
 ·rw [e2 m j hj]; simp [madeCells, hj]
 ·rw [List.getElem?_eq_none (by simp [madeCells]; omega), List.getElem?_eq_none (by rw [e1]; omega)]
theorem op_mks (R : Rel c fr g st a w) (hf : fr id) (hd : ∀ i, dst = some i → i < c.n) {t e : TypeId} {x y : Operand} {i : TypeInfo} {z : List Value} (he : elemOf' P t = some e) (hi : P.info? e = some i) (hz : zeroOf P e = some z)
  (ho : oAll [x, y] = true) (hs : sameO x y = true) (hzl : z.length = i.size) (hpos : 0 < i.size) {n : Nat} (hx : idxOf (st.ev x) = some n) (hroom : Room n i.bytes)
  (hK : K ({ st with gr := upd st.gr id (some ⟨e, i.size, List.replicate n (z.map .s), true⟩) }.put dst (.ref id))) :
  Oper.wp P ⟨dst, .makeSlice t x y, type, pos, after, guard⟩ a w (Goes c fr id K) Q := by
 have hom := oAll_mem ho
 have hu := elemOf_spec he
 obtain ⟨i', zv, hi', hiz, rfl, hone⟩ := zeroOf_spec hz
 rw [hi] at hi'; cases hi'
 obtain ⟨kd, m, hv, h0, rfl⟩ := idxOf_rep (R.ev x (hom x (by simp))) hx
 have hy : ∃ kd', a.eval y = .int kd' m := by
  unfold sameO at hs
  split at hs
  ·rename_i p q
   have : p = q := by simpa using hs
   subst this; exact ⟨kd, hv⟩
  ·rename_i k1 n1 k2 n2
   have : n1 = n2 := by simpa using hs
   subst this
   have : (Value.int k1 n1) = .int kd m := hv
   cases this
   exact ⟨k2, rfl⟩
  ·cases hs
 obtain ⟨kd', hvy⟩ := hy
 obtain ⟨m, rfl⟩ := Int.eq_ofNat_of_zero_le h0
 obtain ⟨w', hr, hown, hgr⟩ := run_make_full (P := P) w c.w0.heap.size t e i zv i.size hu hi hiz rfl kd kd' m (by have := hroom.2; simp only [Int.toNat_natCast] at this; rw [Nat.mul_comm]; omega) (by have := hroom.1; simp only [Int.toNat_natCast] at this; simp only [maxLen]; omega) R.keep.size
 refine wp_of_run (v := .slice (some ⟨w.heap.size, 0, none⟩) m m) (w' := w') (by simp [execOp, hv, hvy, hr]) ⟨_, hK, ?_⟩
 have hb : Below w.heap.size w w' := ⟨hgr.os, hgr.tape, hgr.output, hgr.size, fun k hk => hgr.block k hk (by simp)⟩
 simp only [Int.toNat_natCast]
 refine after_row (R.step hb) hf hd hown (fun h hh q hq => ?_) (fun h hh o => ?_) (by simp) (by simp [hzl]) ?_
 ·cases hh; exact R.unowned (Nat.le_refl _) q hq
 ·cases hh; exact R.none (Nat.le_refl _) o
 ·rw [made_flat zv.cells i.size (by simpa using hzl) hpos m]
  exact pur_zeros hone m
end
end Go.Proofs.YtnjmilelifmfpaaGreatDoor.Ev

namespace Go.Proofs.YtnjmilelifmfpaaGreatDoor.Ev
open Go Go.RowKit
set_option linter.unusedSimpArgs false
set_option linter.unusedVariables false

theorem byteList_spec {S : Snap} : ∀ {xs : List (List AV)} {l : List UInt8} {vs : List Value}, byteList xs = some l → All2 (Pur S) xs.flatten vs →
  xs.length = vs.length ∧ ∃ ns : List Int, vs = ns.map (Value.int .u8) ∧ l = ns.map fun n => UInt8.ofNat n.toNat
 | [], l, vs, h, k => by
  simp only [byteList, Option.some.injEq] at h
  subst h
  cases k
  exact ⟨rfl, [], rfl, rfl⟩
 | c :: xs, l, vs, h, k => by
  unfold byteList at h
  split at h
  ·rename_i heq; cases heq
  ·rename_i n r heq
   cases heq
   simp only [Option.map_eq_some_iff] at h
   obtain ⟨l', h', rfl⟩ := h
   simp only [List.flatten_cons, List.cons_append, List.nil_append] at k
   cases k with
   | cons p k =>
    cases p
    obtain ⟨e, ns, rfl, rfl⟩ := byteList_spec h' k
    exact ⟨by simp at e ⊢; exact e, n :: ns, rfl, rfl⟩
  ·cases h
theorem foldl_push : ∀ (ns : List Int) (b : ByteArray), ns.foldl (fun r n => r.push (UInt8.ofNat n.toNat)) b = ⟨b.data ++ (ns.map fun n => UInt8.ofNat n.toNat).toArray⟩
 | [], b => by simp
 | n :: ns, b => by
  rw [List.foldl_cons, foldl_push ns]
  simp [ByteArray.push]
theorem isByteRow_spec {P : Program} {t : TypeId} (h : isByteRow P t = true) : ∃ e, P.underlying t = some (.slice e) ∧ P.underlying e = some (.int .u8) := by
 unfold isByteRow at h
 split at h
 ·rename_i e hu
  split at h
  ·rename_i hu'; exact ⟨e, hu, hu'⟩
  ·cases h
 ·cases h
section
variable {P : Program} {c : Cx} {fr : Nat → Prop} {g : Gh} {st : AS} {a : Act} {w : World} {dst : Option Tmp} {type : TypeId} {pos : String} {after : Array Edge} {guard : Option (Nat × Bool)} {av : AV}
theorem pv_bts (R : Rel c fr g st a w) {s d : TypeId} {x : Operand} (hs : isByteRow P s = true) (hd : isStr P d = true) (hx : oOk x = true) (h : pv P st.ev st.bx st.gr (.bts x) = some av) :
  PvOk P ⟨dst, .convert s d x, type, pos, after, guard⟩ g a w av := by
 obtain ⟨e, hu, he⟩ := isByteRow_spec hs
 have hdu := isStr_spec hd
 simp only [pv] at h
 split at h
 ·rename_i xs hxs
  simp only [Option.map_eq_some_iff] at h
  obtain ⟨l, hl, rfl⟩ := h
  rcases rowOf_rep R (R.ev x hx) hxs with ⟨⟨A0, c0, hv⟩, rfl⟩ | ⟨b, o, cap, vs, hv, hle, hp, hcell⟩
  ·simp only [byteList, Option.some.injEq] at hl
   subst hl
   refine ⟨.string ⟨#[]⟩, ?_, rep_s rfl⟩
   cases A0 with
   | none => simp [execOp, hv, convert, run_underlying hu, run_underlying hdu, run_underlying he, Conv.bytesToString]; rfl
   | some p => simp [execOp, hv, convert, run_underlying hu, run_underlying hdu, run_underlying he, Conv.bytesToString, loadCells, loadCellsFrom]; rfl
  ·obtain ⟨e1, ns, rfl, rfl⟩ := byteList_spec hl hp
   have hlc := run_loadCells_list (P := P) w ⟨b, o, none⟩ (ns.map (Value.int .u8)) (fun j u hj => by rw [Addr.add_lit]; exact hcell j u hj)
   rw [← e1] at hlc
   have hb := run_bytesToString (P := P) w ⟨b, o, none⟩ xs.length cap ns hlc
   refine ⟨.string ⟨(ns.map fun n => UInt8.ofNat n.toNat).toArray⟩, ?_, rep_s rfl⟩
   rw [foldl_push] at hb
   simp only [execOp, hv, convert, Sem.run_bind, run_underlying hu, run_underlying hdu, run_underlying he, Result.andThen_ok, hb]
   simp [show ByteArray.empty.data = #[] from rfl]
 ·cases h
end
def AOp.quiet : AOp → Bool
 | .box _ | .alloc _ | .st .. | .bs .. | .ap .. | .call .. | .pan _ | .mks .. | .callh .. => false
 | _ => true
theorem stp_quiet {P : Program} {E : Env} {id : Nat} {st : AS} {d : Option Nat} {K : AS → Prop} {X : AV → Prop} {o : AOp} (h : o.quiet = true) : stp P E id st d K X o = ∃ v, pv P st.ev st.bx st.gr o = some v ∧ K (st.put d v) := by
 cases o <;> first|rfl | (cases h)
section
variable {P : Program} {c : Cx} {fr : Nat → Prop} {g : Gh} {st : AS} {a : Act} {w : World} {id : Nat} {K : AS → Prop} {Q : Exit → Act → World → Prop} {X : AV → Prop} {J : JW} {E : Env}
theorem op_quiet (R : Rel c fr g st a w) {o : Oper} (hd : ∀ i, o.dst = some i → i < c.n) {av : AV} (h : PvOk P o g a w av) (k : K (st.put o.dst av)) : o.wp P a w (Goes c fr id K) Q := by
 obtain ⟨v, hr, rp⟩ := h
 exact wp_of_run hr ⟨_, k, after_pure R hd rp⟩
theorem args2 {args : Array Operand} {x y : Operand} (h : args.toList = [x, y]) : args = #[x, y] := by rw [← Array.toArray_toList (xs := args), h]
theorem args1 {args : Array Operand} {x : Operand} (h : args.toList = [x]) : args = #[x] := by rw [← Array.toArray_toList (xs := args), h]
theorem ts2 {args : Array TypeId} {x y : TypeId} (h : args.toList = [x, y]) : args = #[x, y] := by rw [← Array.toArray_toList (xs := args), h]
theorem ts1 {args : Array TypeId} {x : TypeId} (h : args.toList = [x]) : args = #[x] := by rw [← Array.toArray_toList (xs := args), h]
end
end Go.Proofs.YtnjmilelifmfpaaGreatDoor.Ev
