/- Reading an argument: what the model's reading of a value gives, kind by kind: the Lean value, its bounds, and its weight (at most the reading's bulk). -/
import Derived.Test.YthdkjfhpbigdpaaDoorRows
import Derived.Test.YthdkjfhpbigdpaaDoorQx0
import Derived.Deep.Slices
import Derived.ProofKit
import Derived.OpenShut
namespace Go.Proofs.YthdkjfhpbigdpaaDoor.HRead
open Go Go.RowKit Go.Lib Go.Proofs.YthdkjfhpbigdpaaDoorW.PrintWords Go.Proofs.YthdkjfhpbigdpaaDoorW.PrintLast Go.Proofs.YthdkjfhpbigdpaaDoorW.PrintMore
set_option linter.unusedVariables false

/-- At fuel n every reading of type t is a value of kind d. -/
def Rd {α : Type} (P : Program) (d : Kd α) (t : TypeId) (ok : α → Prop) (wt : α → Nat) (n : Nat) : Prop :=
  ∀ {H : Type} (enc : TypeId × Value → H) (w : World) (base : Nat) (spare : Nat → Bool) (held : Bool) (cs : List Value) (x : DataW H × List MemPlace),
    DataW.trod enc P w base spare held n t cs = some x → ∃ y, d.K w y cs ∧ ok y ∧ wt y ≤ Rows.uptoBulk x.1
def RdF {α : Type} (P : Program) (d : Kd α) (fs : List Field) (o : Nat) (ok : α → Prop) (wt : α → Nat) (n : Nat) : Prop :=
  ∀ {H : Type} (enc : TypeId × Value → H) (w : World) (base : Nat) (spare : Nat → Bool) (held : Bool) (cs : List Value) (xs : List (DataW H × List MemPlace)), xs.length = fs.length →
    (∀ (i : Nat) (f : Field), fs[i]? = some f → DataW.trod enc P w base spare held n f.type ((cs.drop f.offset).take (P.cellsOf f.type)) = xs[i]?) →
    ∃ y, d.K w y ((cs.drop o).take d.sz) ∧ ok y ∧ wt y ≤ Rows.uptoBulkAll (xs.map (·.1))

theorem list_of {α : Type} {p : Nat → α → Prop} : ∀ n, (∀ i, i < n → ∃ y, p i y) → ∃ ys : List α, ys.length = n ∧ ∀ i y, ys[i]? = some y → p i y
  | 0, _ => ⟨[], rfl, fun i y h => by simp at h⟩
  | n + 1, h => by
    obtain ⟨ys, hl, hp⟩ := list_of n fun i hi => h i (by omega)
    obtain ⟨y, hy⟩ := h n (by omega)
    refine ⟨ys ++ [y], by simp [hl], fun i z hz => ?_⟩
    by_cases hi : i < n
    · rw [List.getElem?_append_left (by omega)] at hz; exact hp i z hz
    · rw [List.getElem?_append_right (by omega)] at hz
      have h0 : i - ys.length = 0 := by
        have := (List.getElem?_eq_some_iff.1 hz).1
        simp at this; omega
      rw [h0] at hz
      obtain rfl : y = z := by simpa using hz
      obtain rfl : i = n := by omega
      exact hy
theorem bulk_sum {α H : Type} (wt : α → Nat) : ∀ (ys : List α) (ds : List (DataW H)), ys.length = ds.length → (∀ (i : Nat) (y : α) (d : DataW H), ys[i]? = some y → ds[i]? = some d → wt y ≤ Rows.uptoBulk d) → (ys.map wt).sum ≤ Rows.uptoBulkAll ds
  | [], ds, _, _ => by simp
  | y :: ys, [], h, _ => by simp at h
  | y :: ys, d :: ds, h, hp => by
    have h1 := hp 0 y d rfl rfl
    have h2 := bulk_sum wt ys ds (by simpa using h) fun i z e hz he => hp (i + 1) z e hz he
    simp only [List.map_cons, List.sum_cons, Rows.uptoBulkAll]
    omega

section
variable {P : Program} {t e : TypeId} {n : Nat}
theorem rd_zero {α : Type} {d : Kd α} {ok : α → Prop} {wt : α → Nat} : Rd P d t ok wt 0 := fun enc w base spare held cs x h => by simp [DataW.trod] at h
theorem rd_int {k : IntKind} (ht : P.underlying t = some (.int k)) : Rd P (Kd.int k) t (fun m => (Lit.int k m).wf = true) (fun _ => 1) n := by
  intro H enc w base spare held cs x h
  obtain ⟨m, rfl, rfl, hw⟩ := DataW.trod_int ht h
  exact ⟨m, rfl, hw, by simp [Rows.uptoBulk]⟩
theorem rd_bool (ht : P.underlying t = some .bool) : Rd P Kd.bool t (fun _ => True) (fun _ => 1) n := by
  intro H enc w base spare held cs x h
  obtain ⟨b, rfl, rfl⟩ := DataW.trod_bool ht h
  exact ⟨b, rfl, trivial, by simp [Rows.uptoBulk]⟩
theorem rd_string (ht : P.underlying t = some .string) : Rd P Kd.string t (fun _ => True) (fun s => s.size + 1) n := by
  intro H enc w base spare held cs x h
  obtain ⟨s, rfl, rfl, hs⟩ := DataW.trod_string ht h
  exact ⟨s, rfl, trivial, by simp [Rows.uptoBulk]⟩
theorem rd_slice {α : Type} {d : Kd α} {ok : α → Prop} {wt : α → Nat} (ht : P.underlying t = some (.slice e)) (hc : P.cellsOf e = d.sz) (h : Rd P d e ok wt n) :
    Rd P (Kd.slice e d) t (fun ys => (∀ y ∈ ys, ok y) ∧ ys.length ≤ 9223372036854775807) (fun ys => (ys.map wt).sum + 1) (n + 1) := by
  intro H enc w base spare held cs x hx
  rcases DataW.trod_slice ht hx with ⟨rfl, rfl⟩ | ⟨a, len, cap, elems, rest, m, hm, rfl, rfl, hb, hl, hmax, hel, hget, _, _⟩
  · exact ⟨[], ⟨none, 0, rfl, Nat.le_refl _, rfl, by simp, fun h0 => absurd h0 (by simp)⟩, ⟨by simp, by simp⟩, by simp [Rows.uptoBulk]⟩
  · obtain rfl : n = m := by omega
    rw [hc] at hget
    have hmax' : cap ≤ 9223372036854775807 := hmax
    have key : ∀ i, i < len → ∃ y, ∃ cs' x', elems[i]? = some x' ∧ w.cells? base (a.add (i * d.sz)) d.sz = some cs' ∧ d.K w y cs' ∧ ok y ∧ wt y ≤ Rows.uptoBulk x'.1 := by
      intro i hi
      have h1 := hget i hi
      rw [List.getElem?_eq_getElem (by omega)] at h1
      obtain ⟨cs', h2, h3⟩ := Option.bind_eq_some_iff.1 h1
      obtain ⟨y, k1, k2, k3⟩ := h enc w base spare held cs' _ h3
      exact ⟨y, cs', _, List.getElem?_eq_getElem (by omega), h2, k1, k2, k3⟩
    obtain ⟨ys, hyl, hy⟩ := list_of len key
    refine ⟨ys, ⟨some a, cap, by rw [hyl], by omega, ?_⟩, ⟨?_, by omega⟩, ?_⟩
    · refine ⟨rfl, by omega, fun _ => ⟨a, rfl, fun j p hj => ?_⟩⟩
      obtain ⟨cs', x', _, h2, h3, _⟩ := hy j p hj
      obtain ⟨_, h5, h6⟩ := World.cells?_some h2
      refine ⟨cs', h5, h3, fun i u hi => ?_⟩
      have hlt : i < d.sz := by
        have := (List.getElem?_eq_some_iff.1 hi).1
        omega
      rw [← add_add, h6 i hlt, hi]
    · intro y hm
      obtain ⟨i, hi⟩ := List.getElem?_of_mem hm
      obtain ⟨_, _, _, _, _, h4, _⟩ := hy i y hi
      exact h4
    · have := bulk_sum wt ys (elems.map (·.1)) (by simp [hyl, hel]) (fun i y dd hi hd => by
        obtain ⟨cs', x', h1, _, _, _, h5⟩ := hy i y hi
        rw [List.getElem?_map, h1] at hd
        obtain rfl : x'.1 = dd := by simpa using hd
        exact h5)
      simp only [Rows.uptoBulk]
      omega
theorem rdf_one {α : Type} {d : Kd α} {ok : α → Prop} {wt : α → Nat} {f : Field} {o : Nat} (ho : f.offset = o) (hc : P.cellsOf f.type = d.sz) (h : Rd P d f.type ok wt n) : RdF P d [f] o ok wt n := by
  intro H enc w base spare held cs xs hl hx
  match xs, hl with
  | [x], _ =>
    have h0 := hx 0 f rfl
    rw [ho, hc] at h0
    obtain ⟨y, h1, h2, h3⟩ := h enc w base spare held _ _ h0
    exact ⟨y, h1, h2, by simpa [Rows.uptoBulkAll] using h3⟩
theorem rdf_cons {α β : Type} {d : Kd α} {d2 : Kd β} {ok : α → Prop} {wt : α → Nat} {ok2 : β → Prop} {wt2 : β → Nat} {f : Field} {fs : List Field} {o : Nat} (ho : f.offset = o) (hc : P.cellsOf f.type = d.sz) (h : Rd P d f.type ok wt n) (h2 : RdF P d2 fs (o + d.sz) ok2 wt2 n) :
    RdF P (Kd.pair d d2) (f :: fs) o (fun y => ok y.1 ∧ ok2 y.2) (fun y => wt y.1 + wt2 y.2) n := by
  intro H enc w base spare held cs xs hl hx
  match xs, hl with
  | x :: xs, hl =>
    have h0 := hx 0 f rfl
    rw [ho, hc] at h0
    obtain ⟨y, k1, k2, k3⟩ := h enc w base spare held _ _ h0
    obtain ⟨z, j1, j2, j3⟩ := h2 enc w base spare held cs xs (by simpa using hl) fun i g hg => by
      have := hx (i + 1) g (by simpa using hg)
      simpa using this
    refine ⟨(y, z), ⟨_, _, ?_, k1, j1⟩, ⟨k2, j2⟩, ?_⟩
    · show (cs.drop o).take (d.sz + d2.sz) = _
      rw [List.take_add, List.drop_drop]
    · simp only [List.map_cons, Rows.uptoBulkAll]
      omega
theorem rd_struct {α : Type} {d : Kd α} {ok : α → Prop} {wt : α → Nat} {fs : Array Field} (ht : P.underlying t = some (.struct fs)) (hc : P.cellsOf t = d.sz) (h : RdF P d fs.toList 0 ok wt n) : Rd P d t ok (fun y => wt y + 1) (n + 1) := by
  intro H enc w base spare held cs x hx
  obtain ⟨xs, m, hm, rfl, hl, hxl, hf⟩ := DataW.trod_struct ht hx
  obtain rfl : n = m := by omega
  obtain ⟨y, h1, h2, h3⟩ := h enc w base spare held cs xs (by simpa using hxl) fun i f hi => hf i f (by simpa using hi)
  refine ⟨y, ?_, h2, by simp only [Rows.uptoBulk]; omega⟩
  rw [List.drop_zero, List.take_of_length_le (by omega)] at h1
  exact h1
theorem rd_iso {α β : Type} {d : Kd α} {ok : α → Prop} {wt : α → Nat} (f : β → α) (g : α → β) (hfg : ∀ a, f (g a) = a) {ok' : β → Prop} {wt' : β → Nat} (hok : ∀ a, ok a → ok' (g a)) (hwt : ∀ a, wt' (g a) ≤ wt a) (h : Rd P d t ok wt n) : Rd P (Kd.iso d f) t ok' wt' n := by
  intro H enc w base spare held cs x hx
  obtain ⟨y, h1, h2, h3⟩ := h enc w base spare held cs x hx
  exact ⟨g y, by show d.K w (f (g y)) cs; rw [hfg]; exact h1, hok _ h2, Nat.le_trans (hwt _) h3⟩
/-- A slice argument: its row. -/
theorem read_slice {α : Type} {d : Kd α} {ok : List α → Prop} {wt : α → Nat} {H : Type} {enc : TypeId × Value → H} {w : World} {base : Nat} {spare : Nat → Bool} {held : Bool} {v : Value} {D : DataW H} {ps : List MemPlace} (ht : P.underlying t = some (.slice e))
    (h : ∀ n, Rd P (Kd.slice e d) t ok (fun ys => (ys.map wt).sum + 1) n) (hv : v.cells.toList = [v]) (hd : DataW.Trod enc P w base spare held t v D ps) :
    ∃ (ys : List α) (A : Option Addr) (c : Nat), v = .slice A ys.length c ∧ ys.length ≤ c ∧ d.C w A ys.length ys ∧ ok ys ∧ (ys.map wt).sum + 1 ≤ Rows.uptoBulk D := by
  obtain ⟨fuel, hf⟩ := hd
  obtain ⟨ys, ⟨A, c, h1, h2, h3⟩, h4, h5⟩ := h fuel enc w base spare held _ _ hf
  rw [hv] at h1
  exact ⟨ys, A, c, by simpa using h1, h2, h3, h4, h5⟩
end
end Go.Proofs.YthdkjfhpbigdpaaDoor.HRead
