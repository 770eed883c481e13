-- Written for this claim.
import Derived.Test.YthdkjfhpbigdpaaDoorQx5
import Derived.Test.YthdkjfhpbigdpaaDoorHRead
import Derived.Test.YthdkjfhpbigdpaaDoorHTree
namespace Go.Proofs.YthdkjfhpbigdpaaDoor.Pure
open Go Go.RowKit Go.Proofs.YthdkjfhpbigdpaaDoor.Q Go.Proofs.YthdkjfhpbigdpaaDoorW.PrintWords Go.Proofs.YthdkjfhpbigdpaaDoorW.PrintLast Go.Proofs.YthdkjfhpbigdpaaDoorW.PrintMore
open HRead HTree Go.WideShapes
namespace TreeRd
theorem wts_sum : ∀ l : List T, wts l = (l.map wt).sum
  | [] => rfl
  | x :: r => by simp only [wts, List.map_cons, List.sum_cons, wts_sum r]
theorem oks_of : ∀ l : List T, (∀ y ∈ l, Ok y) → Oks l
  | [], _ => trivial
  | x :: r, h => ⟨h x (List.mem_cons_self ..), oks_of r fun y hy => h y (List.mem_cons_of_mem _ hy)⟩
theorem rdTree : ∀ n, (∀ m, m ≤ n → Rd Tryd.prog k24 24 Ok wt m)
  | 0 => fun m hm => by obtain rfl : m = 0 := by omega
                        exact rd_zero
  | n + 1 => fun m hm => by
    have ih := rdTree n
    rcases Nat.lt_or_ge m (n + 1) with hlt | hge
    · intro H enc w base spare held cs x hx
      exact ih m (by omega) enc w base spare held cs x hx
    · obtain rfl : m = n + 1 := by omega
      have hs : Rd Tryd.prog (Kd.slice 24 k24) 22 (fun ys => (∀ y ∈ ys, Ok y) ∧ ys.length ≤ 9223372036854775807) (fun ys => (ys.map wt).sum + 1) n := by
        cases n with
        | zero => exact rd_zero
        | succ n => exact rd_slice Tryd.underlying22 (by kernel_rfl) (ih n (by omega))
      intro H enc w base spare held cs x hx
      obtain ⟨y, hK, ⟨o1, _, o2, o4, o3, _⟩, hw⟩ := rd_struct (d := Kd.pair (Kd.int .i64) (Kd.pair Kd.string (Kd.pair (Kd.int .i64) (Kd.pair (Kd.int .i64) (Kd.slice 24 k24))))) Tryd.underlying24 (by kernel_rfl) (rdf_cons rfl (by kernel_rfl) (rd_int Tryd.underlying3) (rdf_cons rfl (by kernel_rfl) (rd_string Tryd.underlying9) (rdf_cons rfl (by kernel_rfl) (rd_int Tryd.underlying3) (rdf_cons rfl (by kernel_rfl) (rd_int Tryd.underlying3) (rdf_one rfl (by kernel_rfl) hs))))) enc w base spare held cs x hx
      obtain ⟨a, s, b, p, l⟩ := y
      refine ⟨⟨a, s, b, p, l⟩, ?_, ⟨o1, o2, o4, oks_of l o3⟩, ?_⟩
      · obtain ⟨_, _, rfl, rfl, ⟨_, _, rfl, rfl, ⟨_, _, rfl, rfl, ⟨_, _, rfl, rfl, ⟨A, c, rfl, hl, g⟩⟩⟩⟩⟩ := hK
        exact k24_mk w ⟨a, s, b, p, l⟩ hl g
      · have e := wts_sum l
        simp only [wt]
        simp only at hw
        omega
set_option maxRecDepth 100000 in
/-- A tree that came in. -/
theorem readTree {H : Type} {enc : TypeId × Value → H} {W : World} {base0 base : Nat} {spare : Nat → Bool} {held : Bool} {r : Reach} {v : Value} {D : DataW H} {ps : List MemPlace} (hval : Value.okWide Tryd.prog W r base0 24 v)
    (hd : DataW.Trod enc Tryd.prog W base spare held 24 v D ps) :
    ∃ (x : T) (A : Option Addr) (c : Nat), v = .agg #[.int .i64 x.f0, .string x.f1, .int .i64 x.f2, .int .i64 x.f3, .slice A x.f4.length c] ∧ Kd.C k24 W A x.f4.length x.f4 ∧ x.f4.length ≤ c ∧ Ok x ∧ wt x ≤ Rows.uptoBulk D := by
  obtain ⟨cs, rfl, hsz⟩ := okWide_struct Tryd.underlying24 hval
  obtain ⟨fuel, hf⟩ := hd
  obtain ⟨x, hK, hok, hw⟩ := rdTree fuel fuel (Nat.le_refl _) enc W base spare held _ _ hf
  obtain ⟨A, c, hcs, hl, hC⟩ := k24_open hK
  refine ⟨x, A, c, ?_, hC, hl, hok, hw⟩
  have : cs.toList = [.int .i64 x.f0, .string x.f1, .int .i64 x.f2, .int .i64 x.f3, .slice A x.f4.length c] := by simpa [Value.cells] using hcs
  rw [← this]
end TreeRd
end Go.Proofs.YthdkjfhpbigdpaaDoor.Pure
