-- Written for this claim: several texts in one.
import Derived.Test.YtnjmilelifmfpaaGreatDoorKHeadW1
import Derived.Test.YtnjmilelifmfpaaGreatDoorProg
import Derived.KernelRfl
import Derived.ProofKit
import Derived.Test.YtnjmilelifmfpaaGreatDoorYHeadWMore
import Derived.Test.YtnjmilelifmfpaaGreatDoorYHeadWLast
import Derived.Deep.RegionWith
import Derived.Lib.Hide
import Derived.Deep.DeepCutAuto
import Derived.Deep.CutBlock
import Derived.Laws.NewBlocks
import Derived.Laws.Slices
import Derived.Laws.Pointers
import Derived.Laws.Rows
import Derived.Tactics2
set_option linter.unusedSimpArgs false
set_option linter.unusedVariables false
/- Plain Lean: terms, and what layer 6 tells of them. No program in sight, but for the printed type of terms. -/
namespace Go.Proofs.YtnjmilelifmfpaaGreatDoor.HCore
open Go.Proofs.YtnjmilelifmfpaaGreatDoor.Q
abbrev T := S24
mutual
def height : T → Nat
 | ⟨_, _, _, l⟩ => heights l + 1
def heights : List T → Nat
 | [] => 0
 | x :: r => max (height x) (heights r)
end
mutual
def size : T → Nat
 | ⟨_, _, _, l⟩ => sizes l + 1
def sizes : List T → Nat
 | [] => 0
 | x :: r => size x + sizes r
end
mutual
def wt : T → Nat
 | ⟨_, _, s, l⟩ => s.size + 1 + wts l
def wts : List T → Nat
 | [] => 0
 | x :: r => wt x + wts r
end
mutual
def Ok : T → Prop
 | ⟨k, n, _, l⟩ => (Go.Lit.int .i64 k).wf = true ∧ (Go.Lit.int .i64 n).wf = true ∧ Oks l
def Oks : List T → Prop
 | [] => True
 | x :: r => Ok x ∧ Oks r
end
def con (s : ByteArray) : Bool := match HLex.lex s.data.toList with
 | .ok [t] => decide (t.kind = 2) && decide (t.text = s.data.toList)
 | _ => false
def oper (s : ByteArray) : Bool := [[43], [45], [42], [47], [60], [61, 61]].contains s.data.toList
def bare (n : Int) (s : ByteArray) : Bool := decide (s.data.toList = []) && decide (n = 0)
mutual
def may : T → Int → Bool
 | ⟨k, n, s, l⟩, free =>
  if k = 1 then decide (l.length = 0) && decide (s.data.toList = []) && decide (0 ≤ n) && decide (n ≤ free - 1)
  else if k = 7 then decide (l.length = 0) && decide (s.data.toList = []) && decide (0 ≤ free)
  else if k = 9 then decide (l.length = 0) && bare n s && decide (0 ≤ free)
  else if k = 2 then decide (l.length = 1) && bare n s && decide (0 ≤ free) && each l (free + 1)
  else if k = 3 then decide (l.length = 2) && bare n s && each l free
  else if k = 8 then decide (l.length = 2) && decide (n = 0) && oper s && each l free
  else if k = 4 then decide (l.length ≤ 8) && decide (n = 0) && con s && decide (0 ≤ free) && each l free
  else if k = 5 then decide (2 ≤ l.length) && bare n s && mayCase l free
  else false
def each : List T → Int → Bool
 | [], _ => true
 | x :: r, free => may x free && each r free
def mayCase : List T → Int → Bool
 | [], _ => false
 | x :: r, free => may x free && alts r free [] && decide (1 ≤ r.length) && decide (r.length ≤ 8)
def alts : List T → Int → List T → Bool
 | [], _, _ => true
 | ⟨k, n, s, l⟩ :: r, free, seen => decide (k = 6) && con s && decide (0 ≤ n) && decide (n ≤ 8) && decide (l.length = 1) && each l (free + n) && !(seen.any fun b => decide (b.f2.data.toList = s.data.toList)) && alts r free (seen ++ [⟨k, n, s, l⟩])
end
mutual
def same : T → T → Bool
 | ⟨k, n, s, l⟩, ⟨k', n', s', l'⟩ => decide (k = k') && decide (s.data.toList = s'.data.toList) && decide (n = n') && sames l l'
def sames : List T → List T → Bool
 | [], [] => true
 | x :: r, y :: r' => same x y && sames r r'
 | _, _ => false
end
theorem height_get {l : List T} {x : T} (h : x ∈ l) : height x ≤ heights l := by
 induction l with
 | nil => cases h
 | cons y r ih =>
  simp only [heights]
  rcases List.mem_cons.1 h with rfl | h
  ·omega
  ·have := ih h; omega
theorem wt_get {l : List T} {x : T} (h : x ∈ l) : wt x ≤ wts l := by
 induction l with
 | nil => cases h
 | cons y r ih =>
  simp only [wts]
  rcases List.mem_cons.1 h with rfl | h
  ·omega
  ·have := ih h; omega
theorem each_iff (free : Int) : ∀ l : List T, each l free = l.all (fun x => may x free)
 | [] => rfl
 | x :: r => by simp only [each, List.all_cons, each_iff free r]
end Go.Proofs.YtnjmilelifmfpaaGreatDoor.HCore

namespace Go.Proofs.YtnjmilelifmfpaaGreatDoor.Ev
open Go Go.RowKit
open HCore (wt wts may same height heights size sizes)
set_option linter.unusedSimpArgs false
set_option linter.unusedVariables false
abbrev Tm := HCore.T
mutual
def encT : Tm → List AV
 | ⟨k, n, s, l⟩ => [.s (.int .i64 k), .s (.int .i64 n), .s (.string s), .row (encTs l)]
def encTs : List Tm → List (List AV)
 | [] => []
 | x :: l => encT x :: encTs l
end
theorem encT_is (x : Tm) : encT x = [.s (.int .i64 x.f0), .s (.int .i64 x.f1), .s (.string x.f2), .row (encTs x.f3)] := by cases x; rfl
theorem encTs_map : ∀ l : List Tm, encTs l = l.map encT
 | [] => rfl
 | x :: l => by rw [encTs, encTs_map l]; rfl
theorem encTs_len (l : List Tm) : (encTs l).length = l.length := by rw [encTs_map]; simp
theorem encT_len (x : Tm) : (encT x).length = 4 := by rw [encT_is]; rfl
theorem encTs_get (l : List Tm) (i : Nat) : (encTs l)[i]? = l[i]?.map encT := by rw [encTs_map, List.getElem?_map]
theorem eget {l : List Tm} {i : Nat} {y : Tm} (h : l[i]? = some y) : (encTs l)[i]? = some [.s (.int .i64 y.f0), .s (.int .i64 y.f1), .s (.string y.f2), .row (encTs y.f3)] := by rw [encTs_get, h, ← encT_is]; rfl
theorem wt_of (x : Tm) : wt x = x.f2.size + 1 + wts x.f3 := by cases x; rfl
theorem height_of (x : Tm) : height x = heights x.f3 + 1 := by cases x; rfl
theorem size_of (x : Tm) : size x = sizes x.f3 + 1 := by cases x; rfl
theorem wr {i : Int} (h0 : -9223372036854775808 ≤ i) (h1 : i < 9223372036854775808) : IntKind.i64.wrap i = i := by rw [IntKind.wrap_i64]; omega
theorem height_mem {l : List Tm} {x : Tm} (h : x ∈ l) : height x ≤ heights l := by
 induction l with
 | nil => simp at h
 | cons y l ih =>
  simp only [heights]
  rcases List.mem_cons.1 h with rfl | h
  ·omega
  ·have := ih h; omega
theorem heights_take {l : List Tm} {i : Nat} {x : Tm} (h : l[i]? = some x) : heights (l.take (i + 1)) = max (heights (l.take i)) (height x) := by
 induction l generalizing i with
 | nil => simp at h
 | cons y l ih =>
  cases i with
  | zero => simp at h; subst h; simp [heights]
  | succ i => simp only [List.take_succ_cons, heights, ih (by simpa using h)]; omega
theorem sizes_take {l : List Tm} {i : Nat} {x : Tm} (h : l[i]? = some x) : sizes (l.take (i + 1)) = sizes (l.take i) + size x := by
 induction l generalizing i with
 | nil => simp at h
 | cons y l ih =>
  cases i with
  | zero => simp at h; subst h; simp [sizes]
  | succ i => simp only [List.take_succ_cons, sizes, ih (by simpa using h)]; omega
theorem size_le_wt : ∀ x : Tm, size x ≤ wt x
 | ⟨k, n, s, l⟩ => by simp only [size, wt]; have := sizes_le_wts l; omega
where
 sizes_le_wts : ∀ l : List Tm, sizes l ≤ wts l
  | [] => Nat.le_refl 0
  | x :: r => by simp only [sizes, wts]; have := size_le_wt x; have := sizes_le_wts r; omega
theorem height_le_size : ∀ x : Tm, height x ≤ size x
 | ⟨k, n, s, l⟩ => by simp only [size, height]; have := heights_le_sizes l; omega
where
 heights_le_sizes : ∀ l : List Tm, heights l ≤ sizes l
  | [] => Nat.le_refl 0
  | x :: r => by simp only [sizes, heights]; have := height_le_size x; have := heights_le_sizes r; omega
theorem sizes_mem {l : List Tm} {x : Tm} (h : x ∈ l) : size x ≤ sizes l := by
 induction l with
 | nil => simp at h
 | cons y l ih =>
  simp only [sizes]
  rcases List.mem_cons.1 h with rfl | h
  ·omega
  ·have := ih h; omega
theorem len_sizes : ∀ l : List Tm, l.length ≤ sizes l
 | [] => Nat.le_refl 0
 | x :: l => by
  have h1 : 1 ≤ size x := by rw [size_of]; omega
  have := len_sizes l
  simp only [List.length_cons, sizes]; omega
theorem take_len {α : Type} (l : List α) : l.take l.length = l := List.take_length
theorem stake_le {l : List Tm} {i : Nat} : sizes (l.take i) ≤ sizes l := by
 induction l generalizing i with
 | nil => simp
 | cons y l ih => cases i with
  | zero => simp [sizes]
  | succ i => simp only [List.take_succ_cons, sizes]; have := ih (i := i); omega
mutual
def wd : Tm → Nat
 | ⟨_, _, _, l⟩ => max l.length (wds l)
def wds : List Tm → Nat
 | [] => 0
 | x :: l => max (wd x) (wds l)
end
theorem wd_of (x : Tm) : wd x = max x.f3.length (wds x.f3) := by cases x; rfl
theorem wd_mem {l : List Tm} {x : Tm} (h : x ∈ l) : wd x ≤ wds l := by
 induction l with
 | nil => simp at h
 | cons y l ih =>
  simp only [wds]
  rcases List.mem_cons.1 h with rfl | h
  ·omega
  ·have := ih h; omega
mutual
def mx : Tm → Nat
 | ⟨_, _, s, l⟩ => max s.size (mxs l)
def mxs : List Tm → Nat
 | [] => 0
 | x :: l => max (mx x) (mxs l)
end
theorem mx_of (x : Tm) : mx x = max x.f2.size (mxs x.f3) := by cases x; rfl
theorem mx_mem {l : List Tm} {x : Tm} (h : x ∈ l) : mx x ≤ mxs l := by
 induction l with
 | nil => simp at h
 | cons y l ih =>
  simp only [mxs]
  rcases List.mem_cons.1 h with rfl | h
  ·omega
  ·have := ih h; omega
theorem wt_le_mx : ∀ x : Tm, wt x ≤ size x * (mx x + 1)
 | ⟨k, n, s, l⟩ => by
  simp only [mx, wt, size]
  have h := wts_le_mx l
  have : sizes l * (mxs l + 1) ≤ sizes l * (max s.size (mxs l) + 1) := Nat.mul_le_mul_left _ (by omega)
  rw [Nat.add_mul, Nat.one_mul]; omega
where
 wts_le_mx : ∀ l : List Tm, wts l ≤ sizes l * (mxs l + 1)
  | [] => Nat.zero_le _
  | x :: r => by
   simp only [mxs, wts, sizes]
   have h1 := wt_le_mx x
   have h2 := wts_le_mx r
   have h3 : size x * (mx x + 1) ≤ size x * (max (mx x) (mxs r) + 1) := Nat.mul_le_mul_left _ (by omega)
   have h4 : sizes r * (mxs r + 1) ≤ sizes r * (max (mx x) (mxs r) + 1) := Nat.mul_le_mul_left _ (by omega)
   rw [Nat.add_mul]; omega
end Go.Proofs.YtnjmilelifmfpaaGreatDoor.Ev

namespace Go.Proofs.YtnjmilelifmfpaaGreatDoor.Ev
open Go Go.RowKit
def c3 : ACode := (.seq (.reg [b 2 (.box (T 0)), b 4 (.mv (B false))]) (.seq (.seq (.reg [b 15 (.ld true 4 (T 2)), b 16 (.call 9 [(T 15), (I 300)]), b 17 (.sc (.un .not) [(T 16)]), b 18 (.mv (T 17)), bg 19 18 false (.ld true 4 (T 2)), bg 20 18 false (.call 10 [(T 19)]), bg 21 18 false (.sc (.bin .gtr 3) [(T 20), (I 300)]), b 22 (.pick (T 18) (B true) (T 21)), b 23 (.mv (T 22)), bg 24 23 false (.mv (T 1)), bg 25 23 false (.sc (.bin .gtr 3) [(T 24), (I 100)]), bg 26 23 false (.mv (T 25)), bg 27 26 true (.mv (T 1)), bg 28 26 true (.sc (.bin .leq 3) [(T 27), (I 100000)]), bg 29 23 false (.pick (T 26) (T 28) (B false)), b 30 (.pick (T 23) (B true) (T 29))]) (.cond (T 30) (.seq (.reg [b 31 (.call 11 []), b 4 (.mv (T 31))]) .ret) .skip)) (.seq (.reg [b 33 (.ld true 4 (T 2)), b 34 (.call 12 [(T 33)]), b 32 (.mv (T 34)), b 35 (.ex (T 32) 0), b 36 (.ex (T 32) 1), b 5 (.alloc [(.int .i64 0), (.int .i64 0), (.string ⟨#[]⟩), (.slice none 0 0)]), b0 (.st 4 (T 5) (T 35)), b 6 (.mv (T 36))]) (.seq (.reg [b 38 (.ld true 4 (T 2)), b 39 (.call 13 [(T 38)]), b 37 (.mv (T 39)), b 40 (.ex (T 37) 0), b 41 (.ex (T 37) 1), b 7 (.alloc [(.int .i64 0), (.int .i64 0), (.string ⟨#[]⟩), (.slice none 0 0)]), b0 (.st 4 (T 7) (T 40)), b 8 (.mv (T 41))]) (.seq (.reg [b 43 (.ld true 4 (T 2)), b 44 (.mv (T 1)), b 45 (.call 14 [(T 43), (T 44)]), b 42 (.mv (T 45)), b 46 (.ex (T 42) 0), b 47 (.ex (T 42) 1), b 48 (.ex (T 42) 2), b 9 (.alloc [(.int .i64 0), (.int .i64 0), (.string ⟨#[]⟩), (.slice none 0 0)]), b0 (.st 4 (T 9) (T 46)), b 10 (.mv (T 47)), b 11 (.mv (T 48))]) (.seq (.reg [b 50 (.ld true 4 (T 2)), b 51 (.mv (T 1)), b 52 (.call 15 [(T 50), (T 51)]), b 49 (.mv (T 52)), b 53 (.ex (T 49) 0), b 54 (.ex (T 49) 1), b 55 (.ex (T 49) 2), b 12 (.alloc [(.int .i64 0), (.int .i64 0), (.string ⟨#[]⟩), (.slice none 0 0)]), b0 (.st 4 (T 12) (T 53)), b 13 (.mv (T 54)), b 14 (.mv (T 55))]) (.seq (.reg [b 56 (.call 11 []), b 57 (.mv (T 56)), bg 58 57 true (.ld true 4 (T 5)), bg 59 57 true (.ld true 4 (T 7)), bg 60 57 true (.call 16 [(T 58), (T 59)]), b 61 (.pick (T 57) (T 60) (B false)), b 62 (.mv (T 61)), bg 63 62 true (.mv (T 6)), bg 64 62 true (.mv (T 8)), bg 65 62 true (.sc (.bin .eql 3) [(T 63), (T 64)]), b 66 (.pick (T 62) (T 65) (B false)), b 67 (.mv (T 66)), bg 68 67 true (.ld true 4 (T 9)), bg 69 67 true (.ld true 4 (T 12)), bg 70 67 true (.call 16 [(T 68), (T 69)]), b 71 (.pick (T 67) (T 70) (B false)), b 72 (.mv (T 71)), bg 73 72 true (.mv (T 10)), bg 74 72 true (.mv (T 13)), bg 75 72 true (.sc (.bin .eql 3) [(T 73), (T 74)]), b 76 (.pick (T 72) (T 75) (B false)), b 77 (.mv (T 76)), bg 78 77 true (.mv (T 11)), bg 79 77 true (.mv (T 14)), bg 80 77 true (.sc (.bin .eql 30) [(T 78), (T 79)]), b 81 (.pick (T 77) (T 80) (B false)), b 4 (.mv (T 81))]) .ret)))))))
theorem k3 : ∃ code, Tryz.prog.funcs[3]? = some Tryz.f3 ∧ Tryz.f3.body = some code ∧ comp Tryz.prog Tryz.f3.ntmps code = some c3 ∧ rvs Tryz.prog Tryz.f3.results.toList = some [(.t 4)] := ⟨_, Tryz.func3, rfl, by kernel_rfl, by kernel_rfl⟩
def c4 : ACode := (.seq (.reg [b 2 (.box (T 0)), b 4 (.mv (B false))]) (.seq (.seq (.reg [b 18 (.call 11 []), b 19 (.sc (.un .not) [(T 18)]), b 20 (.mv (T 19)), bg 21 20 false (.ld true 4 (T 2)), bg 22 20 false (.call 9 [(T 21), (I 200)]), bg 23 20 false (.sc (.un .not) [(T 22)]), b 24 (.pick (T 20) (B true) (T 23)), b 25 (.mv (T 24)), bg 26 25 false (.ld true 4 (T 2)), bg 27 25 false (.call 10 [(T 26)]), bg 28 25 false (.sc (.bin .gtr 3) [(T 27), (I 300)]), b 29 (.pick (T 25) (B true) (T 28)), b 30 (.mv (T 29)), bg 31 30 false (.ld true 4 (T 2)), bg 32 30 false (.call 17 [(T 31), (I 0)]), bg 33 30 false (.sc (.un .not) [(T 32)]), b 34 (.pick (T 30) (B true) (T 33)), b 35 (.mv (T 34)), bg 36 35 false (.mv (T 1)), bg 37 35 false (.sc (.bin .lss 3) [(T 36), (I 0)]), b 38 (.pick (T 35) (B true) (T 37)), b 39 (.mv (T 38)), bg 40 39 false (.mv (T 1)), bg 41 39 false (.sc (.bin .gtr 3) [(T 40), (I 60)]), b 42 (.pick (T 39) (B true) (T 41))]) (.cond (T 42) (.seq (.reg [b 43 (.call 11 []), b 4 (.mv (T 43))]) .ret) .skip)) (.seq (.reg [b 45 (.ld true 4 (T 2)), b 46 (.call 14 [(T 45), (I 60)]), b 44 (.mv (T 46)), b 47 (.ex (T 44) 0), b 48 (.ex (T 44) 1), b 49 (.ex (T 44) 2), b 5 (.alloc [(.int .i64 0), (.int .i64 0), (.string ⟨#[]⟩), (.slice none 0 0)]), b0 (.st 4 (T 5) (T 47)), b 6 (.mv (T 48)), b 7 (.mv (T 49))]) (.seq (.reg [b 50 (.ld true 4 (T 2)), b 8 (.alloc [(.int .i64 0), (.int .i64 0), (.string ⟨#[]⟩), (.slice none 0 0)]), b0 (.st 4 (T 8) (T 50))]) (.seq (.seq (.reg [b 9 (.mv (I 0))]) (.block 0 (.loop (.seq (.seq (.reg [b 51 (.mv (T 9)), b 52 (.mv (T 1)), b 53 (.sc (.bin .lss 3) [(T 51), (T 52)]), b 54 (.mv (T 53)), bg 55 54 true (.mv (T 9)), bg 56 54 true (.mv (T 6)), bg 57 54 true (.sc (.bin .lss 3) [(T 55), (T 56)]), b 58 (.pick (T 54) (T 57) (B false))]) (.cond (T 58) .skip (.exit 0))) (.seq (.block 1 (.seq (.reg [b 62 (.ld true 4 (T 8)), b 63 (.call 12 [(T 62)]), b 61 (.mv (T 63)), b 64 (.ex (T 61) 0), b 65 (.ex (T 61) 1), b 10 (.alloc [(.int .i64 0), (.int .i64 0), (.string ⟨#[]⟩), (.slice none 0 0)]), b0 (.st 4 (T 10) (T 64)), b 11 (.mv (T 65))]) (.seq (.seq (.reg [b 66 (.mv (T 11)), b 67 (.sc (.bin .eql 3) [(T 66), (I 0)]), b 68 (.mv (T 67)), bg 69 68 false (.ld true 4 (T 10)), bg 70 68 false (.call 17 [(T 69), (I 0)]), bg 71 68 false (.sc (.un .not) [(T 70)]), b 72 (.pick (T 68) (B true) (T 71))]) (.cond (T 72) (.seq (.reg [b 4 (.mv (B false))]) .ret) .skip)) (.reg [b 73 (.ld true 4 (T 10)), b0 (.st 4 (T 8) (T 73))])))) (.reg [b 59 (.mv (T 9)), b 60 (.sc (.bin .add 3) [(T 59), (I 1)]), b 9 (.mv (T 60))])))))) (.seq (.seq (.reg [b 74 (.mv (T 7)), b 75 (.sc (.bin .neq 30) [(T 74), (I 0)])]) (.cond (T 75) (.seq (.reg [b 76 (.mv (T 7)), b 77 (.sc (.bin .eql 30) [(T 76), (I 90)]), b 78 (.mv (T 77)), bg 79 78 false (.mv (T 7)), bg 80 78 false (.sc (.bin .eql 30) [(T 79), (I 91)]), b 81 (.pick (T 78) (B true) (T 80)), b 82 (.mv (T 81)), bg 83 82 true (.mv (T 6)), bg 84 82 true (.sc (.bin .leq 3) [(T 83), (I 60)]), b 85 (.pick (T 82) (T 84) (B false)), b 4 (.mv (T 85))]) .ret) .skip)) (.seq (.reg [b 87 (.ld true 4 (T 8)), b 88 (.call 14 [(T 87), (I 60)]), b 86 (.mv (T 88)), b 89 (.ex (T 86) 0), b 90 (.ex (T 86) 1), b 91 (.ex (T 86) 2), b 12 (.alloc [(.int .i64 0), (.int .i64 0), (.string ⟨#[]⟩), (.slice none 0 0)]), b0 (.st 4 (T 12) (T 89)), b 13 (.mv (T 90)), b 14 (.mv (T 91))]) (.seq (.reg [b 93 (.ld true 4 (T 5)), b 94 (.call 12 [(T 93)]), b 92 (.mv (T 94)), b 95 (.ex (T 92) 0), b 96 (.ex (T 92) 1), b 15 (.alloc [(.int .i64 0), (.int .i64 0), (.string ⟨#[]⟩), (.slice none 0 0)]), b0 (.st 4 (T 15) (T 95)), b 16 (.mv (T 96))]) (.seq (.reg [b 97 (.fa 0 (T 5)), b 98 (.ld false 1 (T 97)), b 99 (.sc (.bin .eql 3) [(T 98), (I 2)]), b 100 (.mv (T 99)), bg 101 100 false (.fa 0 (T 5)), bg 102 100 false (.ld false 1 (T 101)), bg 103 100 false (.sc (.bin .eql 3) [(T 102), (I 4)]), b 104 (.pick (T 100) (B true) (T 103)), b 105 (.mv (T 104)), bg 106 105 false (.fa 0 (T 5)), bg 107 105 false (.ld false 1 (T 106)), bg 108 105 false (.sc (.bin .eql 3) [(T 107), (I 7)]), b 109 (.pick (T 105) (B true) (T 108)), b 110 (.mv (T 109)), bg 111 110 false (.fa 0 (T 5)), bg 112 110 false (.ld false 1 (T 111)), bg 113 110 false (.sc (.bin .eql 3) [(T 112), (I 9)]), b 114 (.pick (T 110) (B true) (T 113)), b 17 (.mv (T 114))]) (.seq (.reg [b 115 (.mv (T 14)), b 116 (.sc (.bin .eql 30) [(T 115), (I 0)]), b 117 (.mv (T 116)), bg 118 117 true (.ld true 4 (T 5)), bg 119 117 true (.ld true 4 (T 12)), bg 120 117 true (.call 16 [(T 118), (T 119)]), b 121 (.pick (T 117) (T 120) (B false)), b 122 (.mv (T 121)), bg 123 122 true (.mv (T 13)), bg 124 122 true (.mv (T 6)), bg 125 122 true (.mv (T 1)), bg 126 122 true (.mv (T 6)), bg 127 122 true (.sc (.bi .min [3, 3] 3) [(T 125), (T 126)]), bg 128 122 true (.sc (.bin .sub 3) [(T 124), (T 127)]), bg 129 122 true (.sc (.bin .eql 3) [(T 123), (T 128)]), b 130 (.pick (T 122) (T 129) (B false)), b 131 (.mv (T 130)), bg 132 131 true (.mv (T 16)), bg 133 131 true (.sc (.bin .eql 3) [(T 132), (I 0)]), b 134 (.pick (T 131) (T 133) (B false)), b 135 (.mv (T 134)), bg 136 135 true (.mv (T 17)), b 137 (.pick (T 135) (T 136) (B false)), b 138 (.mv (T 137)), bg 139 138 true (.ld true 4 (T 5)), bg 140 138 true (.call 17 [(T 139), (I 0)]), b 141 (.pick (T 138) (T 140) (B false)), b 4 (.mv (T 141))]) .ret))))))))))
theorem k4 : ∃ code, Tryz.prog.funcs[4]? = some Tryz.f4 ∧ Tryz.f4.body = some code ∧ comp Tryz.prog Tryz.f4.ntmps code = some c4 ∧ rvs Tryz.prog Tryz.f4.results.toList = some [(.t 4)] := ⟨_, Tryz.func4, rfl, by kernel_rfl, by kernel_rfl⟩
def c5 : ACode := (.seq (.reg [b 2 (.box (T 0)), b 4 (.mv (B false))]) (.seq (.seq (.reg [b 11 (.call 11 []), b 12 (.sc (.un .not) [(T 11)]), b 13 (.mv (T 12)), bg 14 13 false (.ld true 4 (T 2)), bg 15 13 false (.call 9 [(T 14), (I 200)]), bg 16 13 false (.sc (.un .not) [(T 15)]), b 17 (.pick (T 13) (B true) (T 16)), b 18 (.mv (T 17)), bg 19 18 false (.ld true 4 (T 2)), bg 20 18 false (.call 10 [(T 19)]), bg 21 18 false (.sc (.bin .gtr 3) [(T 20), (I 300)]), b 22 (.pick (T 18) (B true) (T 21)), b 23 (.mv (T 22)), bg 24 23 false (.ld true 4 (T 2)), bg 25 23 false (.call 17 [(T 24), (I 0)]), bg 26 23 false (.sc (.un .not) [(T 25)]), b 27 (.pick (T 23) (B true) (T 26)), b 28 (.mv (T 27)), bg 29 28 false (.mv (T 1)), bg 30 28 false (.sc (.bin .lss 3) [(T 29), (I 0)]), b 31 (.pick (T 28) (B true) (T 30)), b 32 (.mv (T 31)), bg 33 32 false (.mv (T 1)), bg 34 32 false (.sc (.bin .gtr 3) [(T 33), (I 60)]), b 35 (.pick (T 32) (B true) (T 34))]) (.cond (T 35) (.seq (.reg [b 36 (.call 11 []), b 4 (.mv (T 36))]) .ret) .skip)) (.seq (.reg [b 38 (.ld true 4 (T 2)), b 39 (.call 14 [(T 38), (I 60)]), b 37 (.mv (T 39)), b 40 (.ex (T 37) 0), b 41 (.ex (T 37) 1), b 42 (.ex (T 37) 2), b 5 (.alloc [(.int .i64 0), (.int .i64 0), (.string ⟨#[]⟩), (.slice none 0 0)]), b0 (.st 4 (T 5) (T 40)), b 6 (.mv (T 41)), b 7 (.mv (T 42))]) (.seq (.reg [b 44 (.ld true 4 (T 2)), b 45 (.mv (T 1)), b 46 (.call 14 [(T 44), (T 45)]), b 43 (.mv (T 46)), b 47 (.ex (T 43) 0), b 48 (.ex (T 43) 1), b 49 (.ex (T 43) 2), b 8 (.alloc [(.int .i64 0), (.int .i64 0), (.string ⟨#[]⟩), (.slice none 0 0)]), b0 (.st 4 (T 8) (T 47)), b 9 (.mv (T 48)), b 10 (.mv (T 49))]) (.seq (.seq (.reg [b 50 (.mv (T 7)), b 51 (.sc (.bin .eql 30) [(T 50), (I 0)]), b 52 (.mv (T 51)), bg 53 52 true (.mv (T 1)), bg 54 52 true (.mv (T 6)), bg 55 52 true (.sc (.bin .geq 3) [(T 53), (T 54)]), b 56 (.pick (T 52) (T 55) (B false))]) (.cond (T 56) (.seq (.reg [b 57 (.mv (T 10)), b 58 (.sc (.bin .eql 30) [(T 57), (I 0)]), b 59 (.mv (T 58)), bg 60 59 true (.mv (T 9)), bg 61 59 true (.mv (T 6)), bg 62 59 true (.sc (.bin .eql 3) [(T 60), (T 61)]), b 63 (.pick (T 59) (T 62) (B false)), b 64 (.mv (T 63)), bg 65 64 true (.ld true 4 (T 5)), bg 66 64 true (.ld true 4 (T 8)), bg 67 64 true (.call 16 [(T 65), (T 66)]), b 68 (.pick (T 64) (T 67) (B false)), b 4 (.mv (T 68))]) .ret) .skip)) (.seq (.reg [b 69 (.mv (T 10)), b 70 (.sc (.bin .neq 30) [(T 69), (I 0)]), b 71 (.mv (T 70)), bg 72 71 true (.mv (T 9)), bg 73 71 true (.mv (T 1)), bg 74 71 true (.sc (.bin .leq 3) [(T 72), (T 73)]), b 75 (.pick (T 71) (T 74) (B false)), b 76 (.mv (T 75)), bg 77 76 true (.ld true 4 (T 8)), bg 78 76 true (.bld [(.int .i64 0), (.int .i64 0), (.string ⟨#[]⟩), (.slice none 0 0)] []), bg 79 76 true (.call 16 [(T 77), (T 78)]), b 80 (.pick (T 76) (T 79) (B false)), b 81 (.mv (T 80)), bg 82 81 true (.mv (T 10)), bg 83 81 true (.sc (.bin .neq 30) [(T 82), (I 90)]), bg 84 81 true (.mv (T 83)), bg 85 84 false (.mv (T 9)), bg 86 84 false (.mv (T 1)), bg 87 84 false (.sc (.bin .eql 3) [(T 85), (T 86)]), bg 88 81 true (.pick (T 84) (B true) (T 87)), b 89 (.pick (T 81) (T 88) (B false)), b 4 (.mv (T 89))]) .ret))))))
theorem k5 : ∃ code, Tryz.prog.funcs[5]? = some Tryz.f5 ∧ Tryz.f5.body = some code ∧ comp Tryz.prog Tryz.f5.ntmps code = some c5 ∧ rvs Tryz.prog Tryz.f5.results.toList = some [(.t 4)] := ⟨_, Tryz.func5, rfl, by kernel_rfl, by kernel_rfl⟩
def c6 : ACode := (.seq (.reg [b 2 (.box (T 0)), b 3 (.box (T 1)), b 4 (.mv (B false))]) (.seq (.seq (.reg [b 15 (.call 11 []), b 16 (.sc (.un .not) [(T 15)]), b 17 (.mv (T 16)), bg 18 17 false (.ld true 4 (T 2)), bg 19 17 false (.call 9 [(T 18), (I 100)]), bg 20 17 false (.sc (.un .not) [(T 19)]), b 21 (.pick (T 17) (B true) (T 20)), b 22 (.mv (T 21)), bg 23 22 false (.ld true 4 (T 2)), bg 24 22 false (.call 10 [(T 23)]), bg 25 22 false (.sc (.bin .gtr 3) [(T 24), (I 300)]), b 26 (.pick (T 22) (B true) (T 25)), b 27 (.mv (T 26)), bg 28 27 false (.ld true 4 (T 3)), bg 29 27 false (.call 9 [(T 28), (I 100)]), bg 30 27 false (.sc (.un .not) [(T 29)]), b 31 (.pick (T 27) (B true) (T 30)), b 32 (.mv (T 31)), bg 33 32 false (.ld true 4 (T 3)), bg 34 32 false (.call 10 [(T 33)]), bg 35 32 false (.sc (.bin .gtr 3) [(T 34), (I 300)]), b 36 (.pick (T 32) (B true) (T 35)), b 37 (.mv (T 36)), bg 38 37 false (.ld true 4 (T 2)), bg 39 37 false (.call 17 [(T 38), (I 0)]), bg 40 37 false (.sc (.un .not) [(T 39)]), b 41 (.pick (T 37) (B true) (T 40)), b 42 (.mv (T 41)), bg 43 42 false (.ld true 4 (T 3)), bg 44 42 false (.call 17 [(T 43), (I 0)]), bg 45 42 false (.sc (.un .not) [(T 44)]), b 46 (.pick (T 42) (B true) (T 45))]) (.cond (T 46) (.seq (.reg [b 47 (.call 11 []), b 4 (.mv (T 47))]) .ret) .skip)) (.seq (.reg [b 48 (.ld true 4 (T 2)), b 49 (.ld true 4 (T 3)), b 50 (.bs 24 4 [(T 48), (T 49)]), b 51 (.bld [(.int .i64 0), (.int .i64 0), (.string ⟨#[]⟩), (.slice none 0 0)] [(0, (1, (I 4))), (2, (1, (S [80]))), (3, (1, (T 50)))]), b 5 (.alloc [(.int .i64 0), (.int .i64 0), (.string ⟨#[]⟩), (.slice none 0 0)]), b0 (.st 4 (T 5) (T 51))]) (.seq (.reg [b 52 (.ld true 4 (T 5)), b 53 (.bld [(.int .i64 0), (.int .i64 0), (.string ⟨#[]⟩), (.slice none 0 0)] [(0, (1, (I 1))), (1, (1, (I 1)))]), b 54 (.bs 24 4 [(T 53)]), b 55 (.bld [(.int .i64 0), (.int .i64 0), (.string ⟨#[]⟩), (.slice none 0 0)] [(0, (1, (I 6))), (2, (1, (S [80]))), (1, (1, (I 2))), (3, (1, (T 54)))]), b 56 (.bs 24 4 [(T 52), (T 55)]), b 57 (.bld [(.int .i64 0), (.int .i64 0), (.string ⟨#[]⟩), (.slice none 0 0)] [(0, (1, (I 5))), (3, (1, (T 56)))]), b 6 (.alloc [(.int .i64 0), (.int .i64 0), (.string ⟨#[]⟩), (.slice none 0 0)]), b0 (.st 4 (T 6) (T 57))]) (.seq (.reg [b 58 (.ld true 4 (T 2)), b 59 (.bs 24 4 [(T 58)]), b 60 (.bld [(.int .i64 0), (.int .i64 0), (.string ⟨#[]⟩), (.slice none 0 0)] [(0, (1, (I 2))), (3, (1, (T 59)))]), b 61 (.ld true 4 (T 3)), b 62 (.bs 24 4 [(T 60), (T 61)]), b 63 (.bld [(.int .i64 0), (.int .i64 0), (.string ⟨#[]⟩), (.slice none 0 0)] [(0, (1, (I 3))), (3, (1, (T 62)))]), b 7 (.alloc [(.int .i64 0), (.int .i64 0), (.string ⟨#[]⟩), (.slice none 0 0)]), b0 (.st 4 (T 7) (T 63))]) (.seq (.reg [b 65 (.ld true 4 (T 5)), b 66 (.call 14 [(T 65), (I 0)]), b 64 (.mv (T 66)), b 67 (.ex (T 64) 0), b 68 (.ex (T 64) 1), b 69 (.ex (T 64) 2), b 8 (.alloc [(.int .i64 0), (.int .i64 0), (.string ⟨#[]⟩), (.slice none 0 0)]), b0 (.st 4 (T 8) (T 67)), b 9 (.mv (T 68)), b 10 (.mv (T 69))]) (.seq (.reg [b 71 (.ld true 4 (T 6)), b 72 (.call 12 [(T 71)]), b 70 (.mv (T 72)), b 73 (.ex (T 70) 0), b 74 (.ex (T 70) 1), b 11 (.alloc [(.int .i64 0), (.int .i64 0), (.string ⟨#[]⟩), (.slice none 0 0)]), b0 (.st 4 (T 11) (T 73)), b 12 (.mv (T 74))]) (.seq (.reg [b 76 (.ld true 4 (T 7)), b 77 (.call 12 [(T 76)]), b 75 (.mv (T 77)), b 78 (.ex (T 75) 0), b 79 (.ex (T 75) 1), b 13 (.alloc [(.int .i64 0), (.int .i64 0), (.string ⟨#[]⟩), (.slice none 0 0)]), b0 (.st 4 (T 13) (T 78)), b 14 (.mv (T 79))]) (.seq (.reg [b 80 (.mv (T 10)), b 81 (.sc (.bin .eql 30) [(T 80), (I 0)]), b 82 (.mv (T 81)), bg 83 82 true (.mv (T 9)), bg 84 82 true (.sc (.bin .eql 3) [(T 83), (I 0)]), b 85 (.pick (T 82) (T 84) (B false)), b 86 (.mv (T 85)), bg 87 86 true (.ld true 4 (T 8)), bg 88 86 true (.ld true 4 (T 5)), bg 89 86 true (.call 16 [(T 87), (T 88)]), b 90 (.pick (T 86) (T 89) (B false)), b 91 (.mv (T 90)), bg 92 91 true (.mv (T 12)), bg 93 91 true (.sc (.bin .eql 3) [(T 92), (I 2)]), b 94 (.pick (T 91) (T 93) (B false)), b 95 (.mv (T 94)), bg 96 95 true (.ld true 4 (T 11)), bg 97 95 true (.ld true 4 (T 2)), bg 98 95 true (.call 16 [(T 96), (T 97)]), b 99 (.pick (T 95) (T 98) (B false)), b 100 (.mv (T 99)), bg 101 100 true (.mv (T 14)), bg 102 100 true (.sc (.bin .eql 3) [(T 101), (I 1)]), b 103 (.pick (T 100) (T 102) (B false)), b 104 (.mv (T 103)), bg 105 104 true (.ld true 4 (T 13)), bg 106 104 true (.ld true 4 (T 2)), bg 107 104 true (.call 16 [(T 105), (T 106)]), b 108 (.pick (T 104) (T 107) (B false)), b 4 (.mv (T 108))]) .ret)))))))))
theorem k6 : ∃ code, Tryz.prog.funcs[6]? = some Tryz.f6 ∧ Tryz.f6.body = some code ∧ comp Tryz.prog Tryz.f6.ntmps code = some c6 ∧ rvs Tryz.prog Tryz.f6.results.toList = some [(.t 4)] := ⟨_, Tryz.func6, rfl, by kernel_rfl, by kernel_rfl⟩
def c7 : ACode := (.seq (.reg [b 2 (.box (T 0)), b 3 (.box (T 1)), b 4 (.mv (B false))]) (.seq (.seq (.reg [b 14 (.call 11 []), b 15 (.sc (.un .not) [(T 14)]), b 16 (.mv (T 15)), bg 17 16 false (.ld true 4 (T 2)), bg 18 16 false (.call 9 [(T 17), (I 100)]), bg 19 16 false (.sc (.un .not) [(T 18)]), b 20 (.pick (T 16) (B true) (T 19)), b 21 (.mv (T 20)), bg 22 21 false (.ld true 4 (T 2)), bg 23 21 false (.call 10 [(T 22)]), bg 24 21 false (.sc (.bin .gtr 3) [(T 23), (I 200)]), b 25 (.pick (T 21) (B true) (T 24)), b 26 (.mv (T 25)), bg 27 26 false (.ld true 4 (T 3)), bg 28 26 false (.call 9 [(T 27), (I 100)]), bg 29 26 false (.sc (.un .not) [(T 28)]), b 30 (.pick (T 26) (B true) (T 29)), b 31 (.mv (T 30)), bg 32 31 false (.ld true 4 (T 3)), bg 33 31 false (.call 10 [(T 32)]), bg 34 31 false (.sc (.bin .gtr 3) [(T 33), (I 200)]), b 35 (.pick (T 31) (B true) (T 34)), b 36 (.mv (T 35)), bg 37 36 false (.ld true 4 (T 2)), bg 38 36 false (.call 17 [(T 37), (I 0)]), bg 39 36 false (.sc (.un .not) [(T 38)]), b 40 (.pick (T 36) (B true) (T 39)), b 41 (.mv (T 40)), bg 42 41 false (.ld true 4 (T 3)), bg 43 41 false (.call 17 [(T 42), (I 0)]), bg 44 41 false (.sc (.un .not) [(T 43)]), b 45 (.pick (T 41) (B true) (T 44))]) (.cond (T 45) (.seq (.reg [b 46 (.call 11 []), b 4 (.mv (T 46))]) .ret) .skip)) (.seq (.reg [b 48 (.ld true 4 (T 2)), b 49 (.call 12 [(T 48)]), b 47 (.mv (T 49)), b 50 (.ex (T 47) 0), b 51 (.ex (T 47) 1), b 5 (.alloc [(.int .i64 0), (.int .i64 0), (.string ⟨#[]⟩), (.slice none 0 0)]), b0 (.st 4 (T 5) (T 50)), b 6 (.mv (T 51))]) (.seq (.seq (.reg [b 52 (.mv (T 6)), b 53 (.sc (.bin .eql 3) [(T 52), (I 0)])]) (.cond (T 53) (.seq (.reg [b 4 (.mv (B true))]) .ret) .skip)) (.seq (.reg [b 54 (.ld true 4 (T 3)), b 55 (.bs 24 4 [(T 54)]), b 56 (.bld [(.int .i64 0), (.int .i64 0), (.string ⟨#[]⟩), (.slice none 0 0)] [(0, (1, (I 6))), (2, (1, (S [65]))), (3, (1, (T 55)))]), b 7 (.alloc [(.int .i64 0), (.int .i64 0), (.string ⟨#[]⟩), (.slice none 0 0)]), b0 (.st 4 (T 7) (T 56))]) (.seq (.reg [b 57 (.bld [(.int .i64 0), (.int .i64 0), (.string ⟨#[]⟩), (.slice none 0 0)] [(0, (1, (I 7))), (1, (1, (I 7)))]), b 8 (.alloc [(.int .i64 0), (.int .i64 0), (.string ⟨#[]⟩), (.slice none 0 0)]), b0 (.st 4 (T 8) (T 57))]) (.seq (.reg [b 58 (.ld true 4 (T 2)), b 59 (.ld true 4 (T 3)), b 60 (.bs 24 4 [(T 58), (T 59)]), b 61 (.bld [(.int .i64 0), (.int .i64 0), (.string ⟨#[]⟩), (.slice none 0 0)] [(0, (1, (I 3))), (3, (1, (T 60)))]), b 62 (.ld true 4 (T 2)), b 63 (.ld true 4 (T 7)), b 64 (.bs 24 4 [(T 62), (T 63)]), b 65 (.bld [(.int .i64 0), (.int .i64 0), (.string ⟨#[]⟩), (.slice none 0 0)] [(0, (1, (I 5))), (3, (1, (T 64)))]), b 66 (.ld true 4 (T 2)), b 67 (.ld true 4 (T 3)), b 68 (.bs 24 4 [(T 66), (T 67)]), b 69 (.bld [(.int .i64 0), (.int .i64 0), (.string ⟨#[]⟩), (.slice none 0 0)] [(0, (1, (I 8))), (2, (1, (S [43]))), (3, (1, (T 68)))]), b 70 (.ld true 4 (T 8)), b 71 (.ld true 4 (T 2)), b 72 (.bs 24 4 [(T 70), (T 71)]), b 73 (.bld [(.int .i64 0), (.int .i64 0), (.string ⟨#[]⟩), (.slice none 0 0)] [(0, (1, (I 8))), (2, (1, (S [60]))), (3, (1, (T 72)))]), b 74 (.bs 24 4 [(T 61), (T 65), (T 69), (T 73)]), b 9 (.mv (T 74))]) (.seq (.reg [b 75 (.ld true 4 (T 5)), b 76 (.ld true 4 (T 3)), b 77 (.bs 24 4 [(T 75), (T 76)]), b 78 (.bld [(.int .i64 0), (.int .i64 0), (.string ⟨#[]⟩), (.slice none 0 0)] [(0, (1, (I 3))), (3, (1, (T 77)))]), b 79 (.ld true 4 (T 5)), b 80 (.ld true 4 (T 7)), b 81 (.bs 24 4 [(T 79), (T 80)]), b 82 (.bld [(.int .i64 0), (.int .i64 0), (.string ⟨#[]⟩), (.slice none 0 0)] [(0, (1, (I 5))), (3, (1, (T 81)))]), b 83 (.ld true 4 (T 5)), b 84 (.ld true 4 (T 3)), b 85 (.bs 24 4 [(T 83), (T 84)]), b 86 (.bld [(.int .i64 0), (.int .i64 0), (.string ⟨#[]⟩), (.slice none 0 0)] [(0, (1, (I 8))), (2, (1, (S [43]))), (3, (1, (T 85)))]), b 87 (.ld true 4 (T 8)), b 88 (.ld true 4 (T 5)), b 89 (.bs 24 4 [(T 87), (T 88)]), b 90 (.bld [(.int .i64 0), (.int .i64 0), (.string ⟨#[]⟩), (.slice none 0 0)] [(0, (1, (I 8))), (2, (1, (S [60]))), (3, (1, (T 89)))]), b 91 (.bs 24 4 [(T 78), (T 82), (T 86), (T 90)]), b 10 (.mv (T 91))]) (.seq (.seq (.reg [b 11 (.mv (I 0))]) (.block 0 (.loop (.seq (.seq (.reg [b 92 (.mv (T 11)), b 93 (.mv (T 9)), b 94 (.ln (T 93)), b 95 (.sc (.bin .lss 3) [(T 92), (T 94)])]) (.cond (T 95) .skip (.exit 0))) (.seq (.block 1 (.seq (.reg [b 99 (.mv (T 9)), b 100 (.mv (T 11)), b 101 (.ia 4 (T 99) (T 100)), b 102 (.ld true 4 (T 101)), b 103 (.call 12 [(T 102)]), b 98 (.mv (T 103)), b 104 (.ex (T 98) 0), b 105 (.ex (T 98) 1), b 12 (.alloc [(.int .i64 0), (.int .i64 0), (.string ⟨#[]⟩), (.slice none 0 0)]), b0 (.st 4 (T 12) (T 104)), b 13 (.mv (T 105))]) (.seq (.reg [a 106 (.mv (T 13)), b 107 (.mv (T 6)), b 108 (.sc (.bin .neq 3) [(T 106), (T 107)]), b 109 (.mv (T 108)), ag 110 109 false (.ld true 4 (T 12)), ag 111 109 false (.mv (T 10)), bg 112 109 false (.mv (T 11)), bg 113 109 false (.ia 4 (T 111) (T 112)), bg 114 109 false (.ld true 4 (T 113)), bg 115 109 false (.call 16 [(T 110), (T 114)]), bg 116 109 false (.sc (.un .not) [(T 115)]), b 117 (.pick (T 109) (B true) (T 116))]) (.cond (T 117) (.seq (.reg [b 4 (.mv (B false))]) .ret) .skip)))) (.reg [b 96 (.mv (T 11)), b 97 (.sc (.bin .add 3) [(T 96), (I 1)]), b 11 (.mv (T 97))])))))) (.seq (.reg [b 4 (.mv (B true))]) .ret))))))))))
theorem k7 : ∃ code, Tryz.prog.funcs[7]? = some Tryz.f7 ∧ Tryz.f7.body = some code ∧ comp Tryz.prog Tryz.f7.ntmps code = some c7 ∧ rvs Tryz.prog Tryz.f7.results.toList = some [(.t 4)] := ⟨_, Tryz.func7, rfl, by kernel_rfl, by kernel_rfl⟩
def c8 : ACode := (.seq (.reg [b 4 (.mv (B false))]) (.seq (.seq (.reg [b 11 (.call 11 []), b 12 (.sc (.un .not) [(T 11)])]) (.cond (T 12) (.seq (.reg [b 4 (.mv (B false))]) .ret) .skip)) (.seq (.reg [b 13 (.bs 9 1 [(S [43]), (S [45]), (S [42]), (S [60]), (S [61, 61]), (S [47])]), b 5 (.mv (T 13))]) (.seq (.reg [b 14 (.mv (T 0)), b 15 (.mv (T 1)), b 16 (.sc (.bin .add 3) [(T 14), (T 15)]), b 17 (.mv (T 0)), b 18 (.mv (T 1)), b 19 (.sc (.bin .sub 3) [(T 17), (T 18)]), b 20 (.mv (T 0)), b 21 (.mv (T 1)), b 22 (.sc (.bin .mul 3) [(T 20), (T 21)]), b 23 (.bs 3 1 [(T 16), (T 19), (T 22), (I 0), (I 0), (I 0)]), b 6 (.mv (T 23))]) (.seq (.seq (.reg [b 7 (.mv (I 0))]) (.block 0 (.loop (.seq (.seq (.reg [b 24 (.mv (T 7)), b 25 (.mv (T 5)), b 26 (.ln (T 25)), b 27 (.sc (.bin .lss 3) [(T 24), (T 26)])]) (.cond (T 27) .skip (.exit 0))) (.seq (.block 1 (.seq (.reg [b 30 (.mv (T 5)), b 31 (.mv (T 7)), b 32 (.ia 1 (T 30) (T 31)), b 33 (.ld false 1 (T 32)), b 34 (.mv (T 0)), b 35 (.bld [(.int .i64 0), (.int .i64 0), (.string ⟨#[]⟩), (.slice none 0 0)] [(0, (1, (I 7))), (1, (1, (T 34)))]), b 36 (.mv (T 1)), b 37 (.bld [(.int .i64 0), (.int .i64 0), (.string ⟨#[]⟩), (.slice none 0 0)] [(0, (1, (I 7))), (1, (1, (T 36)))]), b 38 (.bs 24 4 [(T 35), (T 37)]), b 39 (.bld [(.int .i64 0), (.int .i64 0), (.string ⟨#[]⟩), (.slice none 0 0)] [(0, (1, (I 8))), (2, (1, (T 33))), (3, (1, (T 38)))]), b 8 (.alloc [(.int .i64 0), (.int .i64 0), (.string ⟨#[]⟩), (.slice none 0 0)]), b0 (.st 4 (T 8) (T 39))]) (.seq (.reg [b 41 (.ld true 4 (T 8)), b 42 (.call 12 [(T 41)]), b 40 (.mv (T 42)), b 43 (.ex (T 40) 0), b 44 (.ex (T 40) 1), b 9 (.alloc [(.int .i64 0), (.int .i64 0), (.string ⟨#[]⟩), (.slice none 0 0)]), b0 (.st 4 (T 9) (T 43)), b 10 (.mv (T 44))]) (.seq (.seq (.reg [b 45 (.mv (T 5)), b 46 (.mv (T 7)), b 47 (.ia 1 (T 45) (T 46)), b 48 (.ld false 1 (T 47)), b 49 (.sc (.bin .eql 9) [(T 48), (S [47])]), b 50 (.mv (T 49)), bg 51 50 true (.mv (T 1)), bg 52 50 true (.sc (.bin .eql 3) [(T 51), (I 0)]), b 53 (.pick (T 50) (T 52) (B false))]) (.cond (T 53) (.seq (.reg [b 54 (.mv (T 10)), b 55 (.sc (.bin .eql 3) [(T 54), (I 4)]), b 56 (.mv (T 55)), bg 57 56 true (.fa 0 (T 9)), bg 58 56 true (.ld false 1 (T 57)), bg 59 56 true (.sc (.bin .eql 3) [(T 58), (I 9)]), b 60 (.pick (T 56) (T 59) (B false)), b 4 (.mv (T 60))]) .ret) .skip)) (.seq (.seq (.reg [b 61 (.mv (T 10)), b 62 (.sc (.bin .neq 3) [(T 61), (I 3)])]) (.cond (T 62) (.seq (.reg [b 4 (.mv (B false))]) .ret) .skip)) (.seq (.seq (.reg [b 63 (.mv (T 7)), b 64 (.sc (.bin .lss 3) [(T 63), (I 3)]), b 65 (.mv (T 64)), bg 66 65 true (.fa 0 (T 9)), bg 67 65 true (.ld false 1 (T 66)), bg 68 65 true (.sc (.bin .neq 3) [(T 67), (I 7)]), bg 69 65 true (.mv (T 68)), ag 70 69 false (.fa 1 (T 9)), ag 71 69 false (.ld false 1 (T 70)), ag 72 69 false (.mv (T 6)), bg 73 69 false (.mv (T 7)), bg 74 69 false (.ia 1 (T 72) (T 73)), bg 75 69 false (.ld false 1 (T 74)), bg 76 69 false (.sc (.bin .neq 3) [(T 71), (T 75)]), bg 77 65 true (.pick (T 69) (B true) (T 76)), b 78 (.pick (T 65) (T 77) (B false)), b 79 (.mv (T 78)), bg 80 79 false (.mv (T 7)), bg 81 79 false (.sc (.bin .eql 3) [(T 80), (I 3)]), bg 82 79 false (.mv (T 81)), ag 83 82 true (.fa 2 (T 9)), ag 84 82 true (.ld false 1 (T 83)), ag 85 82 true (.sc (.bin .eql 9) [(T 84), (S [84, 114, 117, 101])]), ag 86 82 true (.mv (T 0)), bg 87 82 true (.mv (T 1)), bg 88 82 true (.sc (.bin .lss 3) [(T 86), (T 87)]), bg 89 82 true (.sc (.bin .neq 4) [(T 85), (T 88)]), bg 90 79 false (.pick (T 82) (T 89) (B false)), b 91 (.pick (T 79) (B true) (T 90)), b 92 (.mv (T 91)), bg 93 92 false (.mv (T 7)), bg 94 92 false (.sc (.bin .eql 3) [(T 93), (I 4)]), bg 95 92 false (.mv (T 94)), ag 96 95 true (.fa 2 (T 9)), ag 97 95 true (.ld false 1 (T 96)), ag 98 95 true (.sc (.bin .eql 9) [(T 97), (S [84, 114, 117, 101])]), ag 99 95 true (.mv (T 0)), bg 100 95 true (.mv (T 1)), bg 101 95 true (.sc (.bin .eql 3) [(T 99), (T 100)]), bg 102 95 true (.sc (.bin .neq 4) [(T 98), (T 101)]), bg 103 92 false (.pick (T 95) (T 102) (B false)), b 104 (.pick (T 92) (B true) (T 103))]) (.cond (T 104) (.seq (.reg [b 4 (.mv (B false))]) .ret) .skip)) (.seq (.reg [b 105 (.mv (T 7)), b 106 (.sc (.bin .eql 3) [(T 105), (I 5)]), b 107 (.mv (T 106)), bg 108 107 true (.fa 1 (T 9)), bg 109 107 true (.ld false 1 (T 108)), bg 110 107 true (.mv (T 1)), bg 111 107 true (.sc (.bin .mul 3) [(T 109), (T 110)]), bg 112 107 true (.mv (T 0)), bg 113 107 true (.sc (.bin .gtr 3) [(T 111), (T 112)]), bg 114 107 true (.mv (T 113)), bg 115 114 true (.mv (T 0)), bg 116 114 true (.sc (.bin .geq 3) [(T 115), (I 0)]), bg 117 107 true (.pick (T 114) (T 116) (B false)), bg 118 107 true (.mv (T 117)), bg 119 118 true (.mv (T 1)), bg 120 118 true (.sc (.bin .gtr 3) [(T 119), (I 0)]), bg 121 107 true (.pick (T 118) (T 120) (B false)), bg 122 107 true (.mv (T 121)), bg 123 122 false (.fa 1 (T 9)), bg 124 122 false (.ld false 1 (T 123)), bg 125 122 false (.mv (T 1)), bg 126 122 false (.sc (.bin .mul 3) [(T 124), (T 125)]), bg 127 122 false (.mv (T 1)), bg 128 122 false (.sc (.bin .add 3) [(T 126), (T 127)]), bg 129 122 false (.mv (T 0)), bg 130 122 false (.sc (.bin .leq 3) [(T 128), (T 129)]), bg 131 122 false (.mv (T 130)), bg 132 131 true (.mv (T 0)), bg 133 131 true (.sc (.bin .geq 3) [(T 132), (I 0)]), bg 134 122 false (.pick (T 131) (T 133) (B false)), bg 135 122 false (.mv (T 134)), bg 136 135 true (.mv (T 1)), bg 137 135 true (.sc (.bin .gtr 3) [(T 136), (I 0)]), bg 138 122 false (.pick (T 135) (T 137) (B false)), bg 139 122 false (.mv (T 138)), bg 140 139 true (.mv (T 1)), bg 141 139 true (.sc (.bin .lss 3) [(T 140), (I 1073741824)]), bg 142 122 false (.pick (T 139) (T 141) (B false)), bg 143 122 false (.mv (T 142)), bg 144 143 true (.mv (T 0)), bg 145 143 true (.sc (.bin .lss 3) [(T 144), (I 1152921504606846976)]), bg 146 122 false (.pick (T 143) (T 145) (B false)), bg 147 107 true (.pick (T 122) (B true) (T 146)), bg 148 107 true (.mv (T 147)), bg 149 148 false (.mv (T 1)), bg 150 148 false (.sc (.bin .eql 3) [(T 149), (I (-1))]), bg 151 148 false (.mv (T 150)), bg 152 151 true (.fa 1 (T 9)), bg 153 151 true (.ld false 1 (T 152)), bg 154 151 true (.mv (T 0)), bg 155 151 true (.sc (.un .neg) [(T 154)]), bg 156 151 true (.sc (.bin .neq 3) [(T 153), (T 155)]), bg 157 148 false (.pick (T 151) (T 156) (B false)), bg 158 107 true (.pick (T 148) (B true) (T 157)), b 159 (.pick (T 107) (T 158) (B false))]) (.cond (T 159) (.seq (.reg [b 4 (.mv (B false))]) .ret) .skip)))))))) (.reg [b 28 (.mv (T 7)), b 29 (.sc (.bin .add 3) [(T 28), (I 1)]), b 7 (.mv (T 29))])))))) (.seq (.reg [b 4 (.mv (B true))]) .ret))))))
theorem k8 : ∃ code, Tryz.prog.funcs[8]? = some Tryz.f8 ∧ Tryz.f8.body = some code ∧ comp Tryz.prog Tryz.f8.ntmps code = some c8 ∧ rvs Tryz.prog Tryz.f8.results.toList = some [(.t 4)] := ⟨_, Tryz.func8, rfl, by kernel_rfl, by kernel_rfl⟩
def c9 : ACode := (.seq (.reg [b 2 (.box (T 0)), b 4 (.mv (B false))]) (.seq (.reg [b 5 (.ld true 4 (T 2)), b 6 (.mv (T 1)), b 7 (.call 18 [(T 5), (T 6), (I 600)]), b 8 (.sc (.bin .geq 3) [(T 7), (I 0)]), b 4 (.mv (T 8))]) .ret))
theorem k9 : ∃ code, Tryz.prog.funcs[9]? = some Tryz.f9 ∧ Tryz.f9.body = some code ∧ comp Tryz.prog Tryz.f9.ntmps code = some c9 ∧ rvs Tryz.prog Tryz.f9.results.toList = some [(.t 4)] := ⟨_, Tryz.func9, rfl, by kernel_rfl, by kernel_rfl⟩
def c10 : ACode := (.seq (.reg [b 1 (.box (T 0)), b 2 (.mv (I 0))]) (.seq (.reg [b 3 (.mv (I 0))]) (.seq (.seq (.reg [b 4 (.mv (I 0))]) (.block 0 (.loop (.seq (.seq (.reg [b 5 (.mv (T 4)), b 6 (.fa 3 (T 1)), b 7 (.ld false 1 (T 6)), b 8 (.ln (T 7)), b 9 (.sc (.bin .lss 3) [(T 5), (T 8)])]) (.cond (T 9) .skip (.exit 0))) (.seq (.block 1 (.reg [b 12 (.mv (T 3)), b 13 (.fa 3 (T 1)), b 14 (.ld false 1 (T 13)), b 15 (.mv (T 4)), b 16 (.ia 4 (T 14) (T 15)), b 17 (.ld true 4 (T 16)), b 18 (.call 10 [(T 17)]), b 19 (.sc (.bi .max [3, 3] 3) [(T 12), (T 18)]), b 3 (.mv (T 19))])) (.reg [b 10 (.mv (T 4)), b 11 (.sc (.bin .add 3) [(T 10), (I 1)]), b 4 (.mv (T 11))])))))) (.seq (.reg [b 20 (.mv (T 3)), b 21 (.sc (.bin .add 3) [(T 20), (I 1)]), b 2 (.mv (T 21))]) .ret))))
theorem k10 : ∃ code, Tryz.prog.funcs[10]? = some Tryz.f10 ∧ Tryz.f10.body = some code ∧ comp Tryz.prog Tryz.f10.ntmps code = some c10 ∧ rvs Tryz.prog Tryz.f10.results.toList = some [(.t 2)] := ⟨_, Tryz.func10, rfl, by kernel_rfl, by kernel_rfl⟩
def c11 : ACode := (.seq (.reg [b 0 (.mv (B false))]) (.seq (.reg [b 14 (.bs 9 1 [(S [40, 92, 120, 46, 32, 120, 41, 32, 49]), (S [99, 97, 115, 101, 32, 65, 32, 50, 32, 51, 32, 111, 102, 32, 123, 32, 65, 32, 120, 32, 121, 32, 45, 62, 32, 120, 32, 45, 32, 121, 32, 125]), (S [49, 32, 47, 32, 48]), (S [49, 32, 50]), (S [108, 101, 116, 114, 101, 99, 32, 102, 32, 61, 32, 92, 110, 46, 32, 99, 97, 115, 101, 32, 110, 32, 61, 61, 32, 48, 32, 111, 102, 32, 123, 32, 84, 114, 117, 101, 32, 45, 62, 32, 49, 32, 124, 32, 70, 97, 108, 115, 101, 32, 45, 62, 32, 110, 32, 42, 32, 102, 32, 40, 110, 32, 45, 32, 49, 41, 32, 125, 32, 105, 110, 32, 102, 32, 53]), (S [40, 92, 120, 46, 32, 65, 32, 40, 120, 32, 120, 41, 41, 32, 51]), (S [99, 97, 115, 101, 32, 49, 32, 111, 102, 32, 123, 32, 65, 32, 45, 62, 32, 49, 32, 125]), (S [99, 97, 115, 101, 32, 65, 32, 111, 102, 32, 123, 32, 66, 32, 45, 62, 32, 49, 32, 125]), (S [65, 32, 43, 32, 49]), (S [55, 32, 47, 32, 50, 32, 45, 32, 57])]), b 1 (.mv (T 14))]) (.seq (.reg [b 15 (.bs 9 1 [(S [49]), (S [45, 49]), (S [33]), (S [33]), (S [49, 50, 48]), (S [40, 65, 32, 40, 64, 32, 51, 32, 51, 41, 41]), (S [33]), (S [33]), (S [33]), (S [45, 54])]), b 2 (.mv (T 15))]) (.seq (.seq (.reg [b 3 (.mv (I 0))]) (.block 0 (.loop (.seq (.seq (.reg [b 16 (.mv (T 3)), b 17 (.mv (T 1)), b 18 (.ln (T 17)), b 19 (.sc (.bin .lss 3) [(T 16), (T 18)])]) (.cond (T 19) .skip (.exit 0))) (.seq (.block 1 (.seq (.reg [b 23 (.mv (T 1)), b 24 (.mv (T 3)), b 25 (.ia 1 (T 23) (T 24)), b 26 (.ld false 1 (T 25)), b 27 (.call 19 [(T 26)]), b 28 (.call 14 [(T 27), (I 1000)]), b 22 (.mv (T 28)), b 29 (.ex (T 22) 0), b 30 (.ex (T 22) 1), b 31 (.ex (T 22) 2), b 4 (.alloc [(.int .i64 0), (.int .i64 0), (.string ⟨#[]⟩), (.slice none 0 0)]), b0 (.st 4 (T 4) (T 29)), b 5 (.mv (T 30)), b 6 (.mv (T 31))]) (.seq (.reg [b 32 (.mv (T 6)), b 33 (.sc (.bin .neq 30) [(T 32), (I 0)]), b 34 (.mv (T 33)), ag 35 34 false (.ld true 4 (T 4)), ag 36 34 false (.call 20 [(T 35)]), ag 37 34 false (.mv (T 2)), bg 38 34 false (.mv (T 3)), bg 39 34 false (.ia 1 (T 37) (T 38)), bg 40 34 false (.ld false 1 (T 39)), bg 41 34 false (.sc (.bin .neq 9) [(T 36), (T 40)]), b 42 (.pick (T 34) (B true) (T 41)), b 43 (.mv (T 42)), bg 44 43 false (.mv (T 5)), bg 45 43 false (.sc (.bin .lss 3) [(T 44), (I 1)]), b 46 (.pick (T 43) (B true) (T 45))]) (.cond (T 46) (.seq (.reg [b 0 (.mv (B false))]) .ret) .skip)))) (.reg [b 20 (.mv (T 3)), b 21 (.sc (.bin .add 3) [(T 20), (I 1)]), b 3 (.mv (T 21))])))))) (.seq (.reg [b 48 (.mv (T 1)), b 49 (.ia 1 (T 48) (I 0)), b 50 (.ld false 1 (T 49)), b 51 (.call 19 [(T 50)]), b 52 (.call 12 [(T 51)]), b 47 (.mv (T 52)), b 53 (.ex (T 47) 0), b 54 (.ex (T 47) 1), b 7 (.alloc [(.int .i64 0), (.int .i64 0), (.string ⟨#[]⟩), (.slice none 0 0)]), b0 (.st 4 (T 7) (T 53)), b 8 (.mv (T 54))]) (.seq (.reg [b 56 (.call 19 [(S [40, 92, 120, 46, 32, 120, 32, 120, 41, 32, 40, 92, 120, 46, 32, 120, 32, 120, 41])]), b 57 (.call 14 [(T 56), (I 50)]), b 55 (.mv (T 57)), b 58 (.ex (T 55) 0), b 59 (.ex (T 55) 1), b 60 (.ex (T 55) 2), b 9 (.alloc [(.int .i64 0), (.int .i64 0), (.string ⟨#[]⟩), (.slice none 0 0)]), b0 (.st 4 (T 9) (T 58)), b 10 (.mv (T 59)), b 11 (.mv (T 60))]) (.seq (.reg [b 62 (.call 19 [(S [92, 120, 46, 32, 120, 32, 49])]), b 63 (.call 12 [(T 62)]), b 61 (.mv (T 63)), b 64 (.ex (T 61) 0), b 65 (.ex (T 61) 1), b 12 (.alloc [(.int .i64 0), (.int .i64 0), (.string ⟨#[]⟩), (.slice none 0 0)]), b0 (.st 4 (T 12) (T 64)), b 13 (.mv (T 65))]) (.seq (.reg [b 66 (.ld true 4 (T 7)), b 67 (.call 20 [(T 66)]), b 68 (.sc (.bin .eql 9) [(T 67), (S [49])]), b 69 (.mv (T 68)), bg 70 69 true (.mv (T 8)), bg 71 69 true (.sc (.bin .eql 3) [(T 70), (I 1)]), b 72 (.pick (T 69) (T 71) (B false)), b 73 (.mv (T 72)), bg 74 73 true (.mv (T 10)), bg 75 73 true (.sc (.bin .eql 3) [(T 74), (I 50)]), b 76 (.pick (T 73) (T 75) (B false)), b 77 (.mv (T 76)), bg 78 77 true (.mv (T 11)), bg 79 77 true (.sc (.bin .eql 30) [(T 78), (I 90)]), b 80 (.pick (T 77) (T 79) (B false)), b 81 (.mv (T 80)), bg 82 81 true (.mv (T 13)), bg 83 81 true (.sc (.bin .eql 3) [(T 82), (I 0)]), b 84 (.pick (T 81) (T 83) (B false)), b 0 (.mv (T 84))]) .ret))))))))
theorem k11 : ∃ code, Tryz.prog.funcs[11]? = some Tryz.f11 ∧ Tryz.f11.body = some code ∧ comp Tryz.prog Tryz.f11.ntmps code = some c11 ∧ rvs Tryz.prog Tryz.f11.results.toList = some [(.t 0)] := ⟨_, Tryz.func11, rfl, by kernel_rfl, by kernel_rfl⟩
def c12 : ACode := (.seq (.reg [b 1 (.box (T 0)), b 2 (.alloc [(.int .i64 0), (.int .i64 0), (.string ⟨#[]⟩), (.slice none 0 0)]), b 3 (.mv (I 0))]) (.seq (.seq (.reg [b 4 (.ld true 4 (T 1)), b 5 (.call 21 [(T 4), (I 4611686018427387904)]), b 6 (.sc (.un .not) [(T 5)])]) (.cond (T 6) (.seq (.reg [b 7 (.ld true 4 (T 1)), b0 (.st 4 (T 2) (T 7)), b 3 (.mv (I 0))]) .ret) .skip)) (.seq (.reg [b 8 (.ld true 4 (T 1)), b 9 (.call 22 [(T 8)]), b 10 (.ex (T 9) 0), b 11 (.ex (T 9) 1), b0 (.st 4 (T 2) (T 10)), b 3 (.mv (T 11))]) .ret)))
theorem k12 : ∃ code, Tryz.prog.funcs[12]? = some Tryz.f12 ∧ Tryz.f12.body = some code ∧ comp Tryz.prog Tryz.f12.ntmps code = some c12 ∧ rvs Tryz.prog Tryz.f12.results.toList = some [(.c true 4 2), (.t 3)] := ⟨_, Tryz.func12, rfl, by kernel_rfl, by kernel_rfl⟩
def c13 : ACode := (.seq (.reg [b 1 (.box (T 0)), b 2 (.alloc [(.int .i64 0), (.int .i64 0), (.string ⟨#[]⟩), (.slice none 0 0)]), b 3 (.mv (I 0))]) (.seq (.seq (.reg [b 4 (.ld true 4 (T 1)), b 5 (.call 17 [(T 4), (I 4611686018427387904)]), b 6 (.sc (.un .not) [(T 5)])]) (.cond (T 6) (.seq (.reg [b 7 (.ld true 4 (T 1)), b0 (.st 4 (T 2) (T 7)), b 3 (.mv (I 0))]) .ret) .skip)) (.seq (.reg [b 8 (.ld true 4 (T 1)), b 9 (.call 23 [(T 8)]), b 10 (.ex (T 9) 0), b 11 (.ex (T 9) 1), b0 (.st 4 (T 2) (T 10)), b 3 (.mv (T 11))]) .ret)))
theorem k13 : ∃ code, Tryz.prog.funcs[13]? = some Tryz.f13 ∧ Tryz.f13.body = some code ∧ comp Tryz.prog Tryz.f13.ntmps code = some c13 ∧ rvs Tryz.prog Tryz.f13.results.toList = some [(.c true 4 2), (.t 3)] := ⟨_, Tryz.func13, rfl, by kernel_rfl, by kernel_rfl⟩
def c14 : ACode := (.seq (.reg [b 2 (.box (T 0)), b 4 (.alloc [(.int .i64 0), (.int .i64 0), (.string ⟨#[]⟩), (.slice none 0 0)]), b 5 (.mv (I 0)), b 6 (.mv (I 0))]) (.seq (.seq (.reg [b 10 (.ld true 4 (T 2)), b 11 (.call 21 [(T 10), (I 0)]), b 12 (.sc (.un .not) [(T 11)]), b 13 (.mv (T 12)), bg 14 13 false (.mv (T 1)), bg 15 13 false (.sc (.bin .lss 3) [(T 14), (I 0)]), b 16 (.pick (T 13) (B true) (T 15)), b 17 (.mv (T 16)), bg 18 17 false (.mv (T 1)), bg 19 17 false (.sc (.bin .gtr 3) [(T 18), (I 100000)]), b 20 (.pick (T 17) (B true) (T 19))]) (.cond (T 20) (.seq (.reg [b 21 (.bld [(.int .i64 0), (.int .i64 0), (.string ⟨#[]⟩), (.slice none 0 0)] []), b0 (.st 4 (T 4) (T 21)), b 5 (.mv (I 0)), b 6 (.mv (I 1))]) .ret) .skip)) (.seq (.reg [b 7 (.mv (I 0))]) (.block 0 (.loop (.seq (.block 1 (.seq (.seq (.reg [b 24 (.ld true 4 (T 2)), b 25 (.call 24 [(T 24)]), b 26 (.sc (.bin .gtr 3) [(T 25), (I 5000)])]) (.cond (T 26) (.seq (.reg [b 27 (.bld [(.int .i64 0), (.int .i64 0), (.string ⟨#[]⟩), (.slice none 0 0)] []), b 28 (.mv (T 7)), b0 (.st 4 (T 4) (T 27)), b 5 (.mv (T 28)), b 6 (.mv (I 91))]) .ret) .skip)) (.seq (.reg [b 30 (.ld true 4 (T 2)), b 31 (.call 22 [(T 30)]), b 29 (.mv (T 31)), b 32 (.ex (T 29) 0), b 33 (.ex (T 29) 1), b 8 (.alloc [(.int .i64 0), (.int .i64 0), (.string ⟨#[]⟩), (.slice none 0 0)]), b0 (.st 4 (T 8) (T 32)), b 9 (.mv (T 33))]) (.seq (.block 2 (.seq (.reg [b 35 (.mv (T 9)), b 36 (.sc (.bin .eql 3) [(T 35), (I 0)]), b 34 (.mv (T 36))]) (.cond (T 34) (.seq (.reg [b 37 (.ld true 4 (T 2)), b 38 (.mv (T 7)), b0 (.st 4 (T 4) (T 37)), b 5 (.mv (T 38)), b 6 (.mv (I 0))]) .ret) (.seq (.reg [b 40 (.mv (T 7)), b 41 (.mv (T 1)), b 42 (.sc (.bin .eql 3) [(T 40), (T 41)]), b 39 (.mv (T 42))]) (.cond (T 39) (.seq (.reg [b 43 (.bld [(.int .i64 0), (.int .i64 0), (.string ⟨#[]⟩), (.slice none 0 0)] []), b 44 (.mv (T 7)), b0 (.st 4 (T 4) (T 43)), b 5 (.mv (T 44)), b 6 (.mv (I 90))]) .ret) .skip))))) (.reg [b 45 (.ld true 4 (T 8)), b0 (.st 4 (T 2) (T 45))]))))) (.reg [b 22 (.mv (T 7)), b 23 (.sc (.bin .add 3) [(T 22), (I 1)]), b 7 (.mv (T 23))])))))))
theorem k14 : ∃ code, Tryz.prog.funcs[14]? = some Tryz.f14 ∧ Tryz.f14.body = some code ∧ comp Tryz.prog Tryz.f14.ntmps code = some c14 ∧ rvs Tryz.prog Tryz.f14.results.toList = some [(.c true 4 4), (.t 5), (.t 6)] := ⟨_, Tryz.func14, rfl, by kernel_rfl, by kernel_rfl⟩
def c15 : ACode := (.seq (.reg [b 2 (.box (T 0)), b 4 (.alloc [(.int .i64 0), (.int .i64 0), (.string ⟨#[]⟩), (.slice none 0 0)]), b 5 (.mv (I 0)), b 6 (.mv (I 0))]) (.seq (.seq (.reg [b 10 (.ld true 4 (T 2)), b 11 (.call 17 [(T 10), (I 0)]), b 12 (.sc (.un .not) [(T 11)]), b 13 (.mv (T 12)), bg 14 13 false (.mv (T 1)), bg 15 13 false (.sc (.bin .lss 3) [(T 14), (I 0)]), b 16 (.pick (T 13) (B true) (T 15)), b 17 (.mv (T 16)), bg 18 17 false (.mv (T 1)), bg 19 17 false (.sc (.bin .gtr 3) [(T 18), (I 100000)]), b 20 (.pick (T 17) (B true) (T 19))]) (.cond (T 20) (.seq (.reg [b 21 (.bld [(.int .i64 0), (.int .i64 0), (.string ⟨#[]⟩), (.slice none 0 0)] []), b0 (.st 4 (T 4) (T 21)), b 5 (.mv (I 0)), b 6 (.mv (I 1))]) .ret) .skip)) (.seq (.reg [b 7 (.mv (I 0))]) (.block 0 (.loop (.seq (.block 1 (.seq (.seq (.reg [b 24 (.ld true 4 (T 2)), b 25 (.call 25 [(T 24)]), b 26 (.sc (.bin .gtr 3) [(T 25), (I 5000)])]) (.cond (T 26) (.seq (.reg [b 27 (.bld [(.int .i64 0), (.int .i64 0), (.string ⟨#[]⟩), (.slice none 0 0)] []), b 28 (.mv (T 7)), b0 (.st 4 (T 4) (T 27)), b 5 (.mv (T 28)), b 6 (.mv (I 91))]) .ret) .skip)) (.seq (.reg [b 30 (.ld true 4 (T 2)), b 31 (.call 23 [(T 30)]), b 29 (.mv (T 31)), b 32 (.ex (T 29) 0), b 33 (.ex (T 29) 1), b 8 (.alloc [(.int .i64 0), (.int .i64 0), (.string ⟨#[]⟩), (.slice none 0 0)]), b0 (.st 4 (T 8) (T 32)), b 9 (.mv (T 33))]) (.seq (.seq (.reg [b 34 (.mv (T 9)), b 35 (.sc (.bin .eql 3) [(T 34), (I 0)])]) (.cond (T 35) (.seq (.reg [b 36 (.ld true 4 (T 2)), b 37 (.mv (T 7)), b0 (.st 4 (T 4) (T 36)), b 5 (.mv (T 37)), b 6 (.mv (I 0))]) .ret) .skip)) (.seq (.seq (.reg [b 38 (.mv (T 7)), b 39 (.mv (T 1)), b 40 (.sc (.bin .eql 3) [(T 38), (T 39)])]) (.cond (T 40) (.seq (.reg [b 41 (.bld [(.int .i64 0), (.int .i64 0), (.string ⟨#[]⟩), (.slice none 0 0)] []), b 42 (.mv (T 7)), b0 (.st 4 (T 4) (T 41)), b 5 (.mv (T 42)), b 6 (.mv (I 90))]) .ret) .skip)) (.reg [b 43 (.ld true 4 (T 8)), b0 (.st 4 (T 2) (T 43))])))))) (.reg [b 22 (.mv (T 7)), b 23 (.sc (.bin .add 3) [(T 22), (I 1)]), b 7 (.mv (T 23))])))))))
theorem k15 : ∃ code, Tryz.prog.funcs[15]? = some Tryz.f15 ∧ Tryz.f15.body = some code ∧ comp Tryz.prog Tryz.f15.ntmps code = some c15 ∧ rvs Tryz.prog Tryz.f15.results.toList = some [(.c true 4 4), (.t 5), (.t 6)] := ⟨_, Tryz.func15, rfl, by kernel_rfl, by kernel_rfl⟩
def c16 : ACode := (.seq (.reg [b 2 (.box (T 0)), b 3 (.box (T 1)), b 4 (.mv (B false))]) (.seq (.seq (.reg [b 6 (.fa 0 (T 2)), b 7 (.ld false 1 (T 6)), b 8 (.fa 0 (T 3)), b 9 (.ld false 1 (T 8)), b 10 (.sc (.bin .neq 3) [(T 7), (T 9)]), b 11 (.mv (T 10)), bg 12 11 false (.fa 2 (T 2)), bg 13 11 false (.ld false 1 (T 12)), bg 14 11 false (.fa 2 (T 3)), bg 15 11 false (.ld false 1 (T 14)), bg 16 11 false (.sc (.bin .neq 9) [(T 13), (T 15)]), b 17 (.pick (T 11) (B true) (T 16)), b 18 (.mv (T 17)), bg 19 18 false (.fa 1 (T 2)), bg 20 18 false (.ld false 1 (T 19)), bg 21 18 false (.fa 1 (T 3)), bg 22 18 false (.ld false 1 (T 21)), bg 23 18 false (.sc (.bin .neq 3) [(T 20), (T 22)]), b 24 (.pick (T 18) (B true) (T 23)), b 25 (.mv (T 24)), bg 26 25 false (.fa 3 (T 2)), bg 27 25 false (.ld false 1 (T 26)), bg 28 25 false (.ln (T 27)), bg 29 25 false (.fa 3 (T 3)), bg 30 25 false (.ld false 1 (T 29)), bg 31 25 false (.ln (T 30)), bg 32 25 false (.sc (.bin .neq 3) [(T 28), (T 31)]), b 33 (.pick (T 25) (B true) (T 32))]) (.cond (T 33) (.seq (.reg [b 4 (.mv (B false))]) .ret) .skip)) (.seq (.seq (.reg [b 5 (.mv (I 0))]) (.block 0 (.loop (.seq (.seq (.reg [b 34 (.mv (T 5)), b 35 (.fa 3 (T 2)), b 36 (.ld false 1 (T 35)), b 37 (.ln (T 36)), b 38 (.sc (.bin .lss 3) [(T 34), (T 37)])]) (.cond (T 38) .skip (.exit 0))) (.seq (.block 1 (.seq (.reg [a 41 (.fa 3 (T 2)), a 42 (.ld false 1 (T 41)), a 43 (.mv (T 5)), a 44 (.ia 4 (T 42) (T 43)), a 45 (.ld true 4 (T 44)), a 46 (.fa 3 (T 3)), a 47 (.ld false 1 (T 46)), b 48 (.mv (T 5)), b 49 (.ia 4 (T 47) (T 48)), b 50 (.ld true 4 (T 49)), b 51 (.call 16 [(T 45), (T 50)]), b 52 (.sc (.un .not) [(T 51)])]) (.cond (T 52) (.seq (.reg [b 4 (.mv (B false))]) .ret) .skip))) (.reg [b 39 (.mv (T 5)), b 40 (.sc (.bin .add 3) [(T 39), (I 1)]), b 5 (.mv (T 40))])))))) (.seq (.reg [b 4 (.mv (B true))]) .ret))))
theorem k16 : ∃ code, Tryz.prog.funcs[16]? = some Tryz.f16 ∧ Tryz.f16.body = some code ∧ comp Tryz.prog Tryz.f16.ntmps code = some c16 ∧ rvs Tryz.prog Tryz.f16.results.toList = some [(.t 4)] := ⟨_, Tryz.func16, rfl, by kernel_rfl, by kernel_rfl⟩
def c17 : ACode := (.seq (.reg [b 2 (.box (T 0)), b 4 (.mv (B false))]) (.seq (.reg [b 5 (.ld true 4 (T 2)), b 6 (.mv (T 1)), b 7 (.call 26 [(T 5), (T 6), (B false)]), b 4 (.mv (T 7))]) .ret))
theorem k17 : ∃ code, Tryz.prog.funcs[17]? = some Tryz.f17 ∧ Tryz.f17.body = some code ∧ comp Tryz.prog Tryz.f17.ntmps code = some c17 ∧ rvs Tryz.prog Tryz.f17.results.toList = some [(.t 4)] := ⟨_, Tryz.func17, rfl, by kernel_rfl, by kernel_rfl⟩
def c18 : ACode := (.seq (.reg [b 3 (.box (T 0)), b 6 (.mv (I 0))]) (.seq (.seq (.reg [b 8 (.mv (T 1)), b 9 (.sc (.bin .lss 3) [(T 8), (I 1)]), b 10 (.mv (T 9)), bg 11 10 false (.mv (T 2)), bg 12 10 false (.sc (.bin .lss 3) [(T 11), (I 1)]), b 13 (.pick (T 10) (B true) (T 12))]) (.cond (T 13) (.seq (.reg [b 6 (.mv (I (-1)))]) .ret) .skip)) (.seq (.reg [b 14 (.mv (T 1)), b 15 (.sc (.bin .sub 3) [(T 14), (I 1)]), b 1 (.mv (T 15))]) (.seq (.seq (.reg [b 7 (.mv (I 0))]) (.block 0 (.loop (.seq (.seq (.reg [b 16 (.mv (T 7)), b 17 (.fa 3 (T 3)), b 18 (.ld false 1 (T 17)), b 19 (.ln (T 18)), b 20 (.sc (.bin .lss 3) [(T 16), (T 19)])]) (.cond (T 20) .skip (.exit 0))) (.seq (.block 1 (.seq (.reg [b 23 (.fa 3 (T 3)), b 24 (.ld false 1 (T 23)), b 25 (.mv (T 7)), b 26 (.ia 4 (T 24) (T 25)), b 27 (.ld true 4 (T 26)), b 28 (.mv (T 1)), b 29 (.mv (T 2)), b 30 (.sc (.bin .sub 3) [(T 29), (I 1)]), b 31 (.call 18 [(T 27), (T 28), (T 30)]), b 1 (.mv (T 31))]) (.seq (.reg [b 32 (.mv (T 1)), b 33 (.sc (.bin .lss 3) [(T 32), (I 0)])]) (.cond (T 33) (.seq (.reg [b 6 (.mv (I (-1)))]) .ret) .skip)))) (.reg [b 21 (.mv (T 7)), b 22 (.sc (.bin .add 3) [(T 21), (I 1)]), b 7 (.mv (T 22))])))))) (.seq (.reg [b 34 (.mv (T 1)), b 6 (.mv (T 34))]) .ret)))))
theorem k18 : ∃ code, Tryz.prog.funcs[18]? = some Tryz.f18 ∧ Tryz.f18.body = some code ∧ comp Tryz.prog Tryz.f18.ntmps code = some c18 ∧ rvs Tryz.prog Tryz.f18.results.toList = some [(.t 6)] := ⟨_, Tryz.func18, rfl, by kernel_rfl, by kernel_rfl⟩
def c19 : ACode := (.seq (.reg [b 2 (.alloc [(.int .i64 0), (.int .i64 0), (.string ⟨#[]⟩), (.slice none 0 0)])]) (.seq (.reg [b 10 (.mv (T 0)), b 11 (.call 27 [(T 10), (I 150)]), b 9 (.mv (T 11)), b 12 (.ex (T 9) 0), b 13 (.ex (T 9) 1), b 14 (.ex (T 9) 2), b 3 (.alloc [(.int .i64 0), (.string ⟨#[]⟩), (.int .i64 0), (.int .i64 0), (.slice none 0 0)]), b0 (.st 5 (T 3) (T 12)), b 4 (.mv (T 13)), b 5 (.mv (T 14))]) (.seq (.reg [b 16 (.ld true 5 (T 3)), b 17 (.call 28 [(T 16)]), b 15 (.mv (T 17)), b 18 (.ex (T 15) 0), b 19 (.ex (T 15) 1), b 20 (.ex (T 15) 2), b 6 (.alloc [(.int .i64 0), (.int .i64 0), (.string ⟨#[]⟩), (.slice none 0 0)]), b0 (.st 4 (T 6) (T 18)), b 7 (.mv (T 19)), b 8 (.mv (T 20))]) (.seq (.reg [b 21 (.ld true 4 (T 6)), b0 (.st 4 (T 2) (T 21))]) .ret))))
theorem k19 : ∃ code, Tryz.prog.funcs[19]? = some Tryz.f19 ∧ Tryz.f19.body = some code ∧ comp Tryz.prog Tryz.f19.ntmps code = some c19 ∧ rvs Tryz.prog Tryz.f19.results.toList = some [(.c true 4 2)] := ⟨_, Tryz.func19, rfl, by kernel_rfl, by kernel_rfl⟩
def c20 : ACode := (.seq (.reg [b 1 (.box (T 0)), b 2 (.mv (S []))]) (.seq (.reg [b 3 (.mv (S []))]) (.seq (.seq (.reg [b 5 (.fa 0 (T 1)), b 6 (.ld false 1 (T 5))]) (.block 0 (.seq (.reg [b 8 (.sc (.bin .eql 3) [(T 6), (I 1)]), b 7 (.mv (T 8))]) (.cond (T 7) (.seq (.reg [b 9 (.fa 1 (T 1)), b 10 (.ld false 1 (T 9)), b 11 (.call 29 [(T 10)]), b 12 (.sc (.bin .add 9) [(S [35]), (T 11)]), b 2 (.mv (T 12))]) .ret) (.seq (.reg [b 14 (.sc (.bin .eql 3) [(T 6), (I 7)]), b 13 (.mv (T 14))]) (.cond (T 13) (.seq (.reg [b 15 (.fa 1 (T 1)), b 16 (.ld false 1 (T 15)), b 17 (.call 29 [(T 16)]), b 2 (.mv (T 17))]) .ret) (.seq (.reg [b 19 (.sc (.bin .eql 3) [(T 6), (I 9)]), b 18 (.mv (T 19))]) (.cond (T 18) (.seq (.reg [b 2 (.mv (S [33]))]) .ret) (.seq (.reg [b 21 (.sc (.bin .eql 3) [(T 6), (I 2)]), b 20 (.mv (T 21))]) (.cond (T 20) (.reg [b 3 (.mv (S [92]))]) (.seq (.reg [b 23 (.sc (.bin .eql 3) [(T 6), (I 3)]), b 22 (.mv (T 23))]) (.cond (T 22) (.reg [b 3 (.mv (S [64]))]) (.seq (.reg [b 25 (.sc (.bin .eql 3) [(T 6), (I 5)]), b 24 (.mv (T 25))]) (.cond (T 24) (.reg [b 3 (.mv (S [63]))]) (.seq (.seq (.reg [b 27 (.sc (.bin .eql 3) [(T 6), (I 4)]), b 26 (.mv (T 27))]) (.cond (T 26) .skip (.reg [b 28 (.sc (.bin .eql 3) [(T 6), (I 8)]), b 26 (.mv (T 28))]))) (.cond (T 26) (.reg [b 29 (.fa 2 (T 1)), b 30 (.ld false 1 (T 29)), b 3 (.mv (T 30))]) (.seq (.reg [b 32 (.sc (.bin .eql 3) [(T 6), (I 6)]), b 31 (.mv (T 32))]) (.cond (T 31) (.reg [a 33 (.fa 2 (T 1)), a 34 (.ld false 1 (T 33)), a 35 (.sc (.bin .add 9) [(T 34), (S [58])]), b 36 (.fa 1 (T 1)), b 37 (.ld false 1 (T 36)), b 38 (.call 29 [(T 37)]), b 39 (.sc (.bin .add 9) [(T 35), (T 38)]), b 3 (.mv (T 39))]) .skip)))))))))))))))))) (.seq (.seq (.reg [b 4 (.mv (I 0))]) (.block 1 (.loop (.seq (.seq (.reg [b 40 (.mv (T 4)), b 41 (.fa 3 (T 1)), b 42 (.ld false 1 (T 41)), b 43 (.ln (T 42)), b 44 (.sc (.bin .lss 3) [(T 40), (T 43)])]) (.cond (T 44) .skip (.exit 1))) (.seq (.block 2 (.reg [b 47 (.mv (T 3)), b 48 (.fa 3 (T 1)), b 49 (.ld false 1 (T 48)), b 50 (.mv (T 4)), b 51 (.ia 4 (T 49) (T 50)), b 52 (.ld true 4 (T 51)), b 53 (.call 20 [(T 52)]), b 54 (.sc (.bin .add 9) [(S [32]), (T 53)]), b 55 (.sc (.bin .add 9) [(T 47), (T 54)]), b 3 (.mv (T 55))])) (.reg [b 45 (.mv (T 4)), b 46 (.sc (.bin .add 3) [(T 45), (I 1)]), b 4 (.mv (T 46))])))))) (.seq (.reg [b 56 (.mv (T 3)), b 57 (.sc (.bin .add 9) [(S [40]), (T 56)]), b 58 (.sc (.bin .add 9) [(T 57), (S [41])]), b 2 (.mv (T 58))]) .ret)))))
theorem k20 : ∃ code, Tryz.prog.funcs[20]? = some Tryz.f20 ∧ Tryz.f20.body = some code ∧ comp Tryz.prog Tryz.f20.ntmps code = some c20 ∧ rvs Tryz.prog Tryz.f20.results.toList = some [(.t 2)] := ⟨_, Tryz.func20, rfl, by kernel_rfl, by kernel_rfl⟩
def c23 : ACode := (.seq (.reg [b 1 (.box (T 0)), b 2 (.alloc [(.int .i64 0), (.int .i64 0), (.string ⟨#[]⟩), (.slice none 0 0)]), b 3 (.mv (I 0))]) (.seq (.seq (.reg [b 6 (.fa 0 (T 1)), b 7 (.ld false 1 (T 6)), b 8 (.sc (.bin .neq 3) [(T 7), (I 3)]), b 9 (.mv (T 8)), bg 10 9 true (.fa 0 (T 1)), bg 11 9 true (.ld false 1 (T 10)), bg 12 9 true (.sc (.bin .neq 3) [(T 11), (I 5)]), b 13 (.pick (T 9) (T 12) (B false)), b 14 (.mv (T 13)), bg 15 14 true (.fa 0 (T 1)), bg 16 14 true (.ld false 1 (T 15)), bg 17 14 true (.sc (.bin .neq 3) [(T 16), (I 8)]), b 18 (.pick (T 14) (T 17) (B false))]) (.cond (T 18) (.seq (.reg [b 19 (.ld true 4 (T 1)), b0 (.st 4 (T 2) (T 19)), b 3 (.mv (I 0))]) .ret) .skip)) (.seq (.reg [b 20 (.fa 3 (T 1)), b 21 (.ld false 1 (T 20)), b 22 (.ia 4 (T 21) (I 0)), b 23 (.ld true 4 (T 22)), b 4 (.alloc [(.int .i64 0), (.int .i64 0), (.string ⟨#[]⟩), (.slice none 0 0)]), b0 (.st 4 (T 4) (T 23))]) (.seq (.seq (.reg [b 24 (.ld true 4 (T 4)), b 25 (.call 39 [(T 24)]), b 26 (.sc (.un .not) [(T 25)])]) (.cond (T 26) (.seq (.reg [b 27 (.ld true 4 (T 1)), b 28 (.call 40 [(T 27), (I 0)]), b 29 (.ex (T 28) 0), b 30 (.ex (T 28) 1), b0 (.st 4 (T 2) (T 29)), b 3 (.mv (T 30))]) .ret) .skip)) (.seq (.seq (.reg [b 31 (.fa 0 (T 1)), b 32 (.ld false 1 (T 31)), b 33 (.sc (.bin .eql 3) [(T 32), (I 5)])]) (.cond (T 33) (.seq (.reg [b 34 (.ld true 4 (T 1)), b 35 (.call 41 [(T 34)]), b 36 (.ex (T 35) 0), b 37 (.ex (T 35) 1), b0 (.st 4 (T 2) (T 36)), b 3 (.mv (T 37))]) .ret) .skip)) (.seq (.seq (.reg [b 38 (.fa 0 (T 1)), b 39 (.ld false 1 (T 38)), b 40 (.sc (.bin .eql 3) [(T 39), (I 3)])]) (.cond (T 40) (.seq (.seq (.reg [b 41 (.fa 0 (T 4)), b 42 (.ld false 1 (T 41)), b 43 (.sc (.bin .eql 3) [(T 42), (I 2)])]) (.cond (T 43) (.seq (.reg [a 44 (.fa 3 (T 4)), a 45 (.ld false 1 (T 44)), a 46 (.ia 4 (T 45) (I 0)), a 47 (.ld true 4 (T 46)), b 48 (.fa 3 (T 1)), b 49 (.ld false 1 (T 48)), b 50 (.ia 4 (T 49) (I 1)), b 51 (.ld true 4 (T 50)), b 52 (.call 42 [(T 47), (I 0), (T 51)]), b0 (.st 4 (T 2) (T 52)), b 3 (.mv (I 1))]) .ret) .skip)) (.seq (.reg [b 53 (.call 43 []), b 54 (.ex (T 53) 0), b 55 (.ex (T 53) 1), b0 (.st 4 (T 2) (T 54)), b 3 (.mv (T 55))]) .ret)) .skip)) (.seq (.reg [b 56 (.fa 3 (T 1)), b 57 (.ld false 1 (T 56)), b 58 (.ia 4 (T 57) (I 1)), b 59 (.ld true 4 (T 58)), b 5 (.alloc [(.int .i64 0), (.int .i64 0), (.string ⟨#[]⟩), (.slice none 0 0)]), b0 (.st 4 (T 5) (T 59))]) (.seq (.seq (.reg [b 60 (.fa 0 (T 4)), b 61 (.ld false 1 (T 60)), b 62 (.sc (.bin .neq 3) [(T 61), (I 7)])]) (.cond (T 62) (.seq (.reg [b 63 (.call 43 []), b 64 (.ex (T 63) 0), b 65 (.ex (T 63) 1), b0 (.st 4 (T 2) (T 64)), b 3 (.mv (T 65))]) .ret) .skip)) (.seq (.seq (.reg [b 66 (.ld true 4 (T 5)), b 67 (.call 39 [(T 66)]), b 68 (.sc (.un .not) [(T 67)])]) (.cond (T 68) (.seq (.reg [b 69 (.ld true 4 (T 1)), b 70 (.call 40 [(T 69), (I 1)]), b 71 (.ex (T 70) 0), b 72 (.ex (T 70) 1), b0 (.st 4 (T 2) (T 71)), b 3 (.mv (T 72))]) .ret) .skip)) (.seq (.seq (.reg [b 73 (.fa 0 (T 5)), b 74 (.ld false 1 (T 73)), b 75 (.sc (.bin .neq 3) [(T 74), (I 7)])]) (.cond (T 75) (.seq (.reg [b 76 (.call 43 []), b 77 (.ex (T 76) 0), b 78 (.ex (T 76) 1), b0 (.st 4 (T 2) (T 77)), b 3 (.mv (T 78))]) .ret) .skip)) (.seq (.reg [b 79 (.fa 2 (T 1)), b 80 (.ld false 1 (T 79)), b 81 (.fa 1 (T 4)), b 82 (.ld false 1 (T 81)), b 83 (.fa 1 (T 5)), b 84 (.ld false 1 (T 83)), b 85 (.call 44 [(T 80), (T 82), (T 84)]), b 86 (.ex (T 85) 0), b 87 (.ex (T 85) 1), b0 (.st 4 (T 2) (T 86)), b 3 (.mv (T 87))]) .ret)))))))))))
theorem k23 : ∃ code, Tryz.prog.funcs[23]? = some Tryz.f23 ∧ Tryz.f23.body = some code ∧ comp Tryz.prog Tryz.f23.ntmps code = some c23 ∧ rvs Tryz.prog Tryz.f23.results.toList = some [(.c true 4 2), (.t 3)] := ⟨_, Tryz.func23, rfl, by kernel_rfl, by kernel_rfl⟩
def c24 : ACode := (.seq (.reg [b 1 (.box (T 0)), b 2 (.mv (I 0))]) (.seq (.reg [b 3 (.mv (I 1))]) (.seq (.seq (.reg [b 6 (.fa 3 (T 1)), b 7 (.ld false 1 (T 6)), b 8 (.ln (T 7)), b 9 (.mv (I 0))]) (.block 0 (.loop (.seq (.reg [b 10 (.sc (.bin .lss 3) [(T 9), (T 8)])]) (.seq (.cond (T 10) .skip (.exit 0)) (.seq (.block 1 (.seq (.reg [b 11 (.ia 4 (T 7) (T 9)), b 12 (.ld true 4 (T 11)), b 5 (.alloc [(.int .i64 0), (.int .i64 0), (.string ⟨#[]⟩), (.slice none 0 0)]), b0 (.st 4 (T 5) (T 12))]) (.reg [b 13 (.mv (T 3)), b 14 (.ld true 4 (T 5)), b 15 (.call 24 [(T 14)]), b 16 (.sc (.bin .add 3) [(T 13), (T 15)]), b 3 (.mv (T 16))]))) (.reg [b 17 (.sc (.bin .add 3) [(T 9), (I 1)]), b 9 (.mv (T 17))]))))))) (.seq (.reg [b 18 (.mv (T 3)), b 2 (.mv (T 18))]) .ret))))
theorem k24 : ∃ code, Tryz.prog.funcs[24]? = some Tryz.f24 ∧ Tryz.f24.body = some code ∧ comp Tryz.prog Tryz.f24.ntmps code = some c24 ∧ rvs Tryz.prog Tryz.f24.results.toList = some [(.t 2)] := ⟨_, Tryz.func24, rfl, by kernel_rfl, by kernel_rfl⟩
def c25 : ACode := (.seq (.reg [b 1 (.box (T 0)), b 2 (.mv (I 0))]) (.seq (.reg [b 3 (.mv (I 1))]) (.seq (.seq (.reg [b 4 (.mv (I 0))]) (.block 0 (.loop (.seq (.seq (.reg [b 5 (.mv (T 4)), b 6 (.fa 3 (T 1)), b 7 (.ld false 1 (T 6)), b 8 (.ln (T 7)), b 9 (.sc (.bin .lss 3) [(T 5), (T 8)])]) (.cond (T 9) .skip (.exit 0))) (.seq (.block 1 (.reg [b 12 (.mv (T 3)), b 13 (.fa 3 (T 1)), b 14 (.ld false 1 (T 13)), b 15 (.mv (T 4)), b 16 (.ia 4 (T 14) (T 15)), b 17 (.ld true 4 (T 16)), b 18 (.call 25 [(T 17)]), b 19 (.sc (.bin .add 3) [(T 12), (T 18)]), b 3 (.mv (T 19))])) (.reg [b 10 (.mv (T 4)), b 11 (.sc (.bin .add 3) [(T 10), (I 1)]), b 4 (.mv (T 11))])))))) (.seq (.reg [b 20 (.mv (T 3)), b 2 (.mv (T 20))]) .ret))))
theorem k25 : ∃ code, Tryz.prog.funcs[25]? = some Tryz.f25 ∧ Tryz.f25.body = some code ∧ comp Tryz.prog Tryz.f25.ntmps code = some c25 ∧ rvs Tryz.prog Tryz.f25.results.toList = some [(.t 2)] := ⟨_, Tryz.func25, rfl, by kernel_rfl, by kernel_rfl⟩
def c26 : ACode := (.seq (.reg [b 3 (.box (T 0)), b 6 (.mv (B false))]) (.seq (.seq (.reg [b 9 (.mv (T 1)), b 10 (.sc (.bin .lss 3) [(T 9), (I 0)]), b 11 (.mv (T 10)), bg 12 11 false (.ld true 4 (T 3)), bg 13 11 false (.mv (T 1)), bg 14 11 false (.mv (T 2)), bg 15 11 false (.call 45 [(T 12), (T 13), (T 14)]), bg 16 11 false (.sc (.un .not) [(T 15)]), b 17 (.pick (T 11) (B true) (T 16))]) (.cond (T 17) (.seq (.reg [b 6 (.mv (B false))]) .ret) .skip)) (.seq (.seq (.reg [b 18 (.fa 0 (T 3)), b 19 (.ld false 1 (T 18)), b 20 (.sc (.bin .eql 3) [(T 19), (I 2)])]) (.cond (T 20) (.reg [b 21 (.mv (T 1)), b 22 (.sc (.bin .add 3) [(T 21), (I 1)]), b 1 (.mv (T 22))]) .skip)) (.seq (.seq (.reg [b 23 (.fa 0 (T 3)), b 24 (.ld false 1 (T 23)), b 25 (.sc (.bin .eql 3) [(T 24), (I 6)])]) (.cond (T 25) (.reg [b 26 (.mv (T 1)), b 27 (.fa 1 (T 3)), b 28 (.ld false 1 (T 27)), b 29 (.sc (.bin .add 3) [(T 26), (T 28)]), b 1 (.mv (T 29))]) .skip)) (.seq (.seq (.reg [b 7 (.mv (I 0))]) (.block 0 (.loop (.seq (.seq (.reg [b 30 (.mv (T 7)), b 31 (.fa 3 (T 3)), b 32 (.ld false 1 (T 31)), b 33 (.ln (T 32)), b 34 (.sc (.bin .lss 3) [(T 30), (T 33)])]) (.cond (T 34) .skip (.exit 0))) (.seq (.block 1 (.seq (.seq (.reg [a 37 (.fa 3 (T 3)), a 38 (.ld false 1 (T 37)), a 39 (.mv (T 7)), a 40 (.ia 4 (T 38) (T 39)), a 41 (.ld true 4 (T 40)), a 42 (.mv (T 1)), b 43 (.fa 0 (T 3)), b 44 (.ld false 1 (T 43)), b 45 (.sc (.bin .eql 3) [(T 44), (I 5)]), b 46 (.mv (T 45)), bg 47 46 true (.mv (T 7)), bg 48 46 true (.sc (.bin .gtr 3) [(T 47), (I 0)]), b 49 (.pick (T 46) (T 48) (B false)), b 50 (.call 26 [(T 41), (T 42), (T 49)]), b 51 (.sc (.un .not) [(T 50)])]) (.cond (T 51) (.seq (.reg [b 6 (.mv (B false))]) .ret) .skip)) (.seq (.reg [b 8 (.mv (I 1))]) (.block 2 (.loop (.seq (.seq (.reg [b 52 (.mv (T 8)), b 53 (.mv (T 7)), b 54 (.sc (.bin .lss 3) [(T 52), (T 53)]), b 55 (.mv (T 54)), bg 56 55 true (.fa 0 (T 3)), bg 57 55 true (.ld false 1 (T 56)), bg 58 55 true (.sc (.bin .eql 3) [(T 57), (I 5)]), b 59 (.pick (T 55) (T 58) (B false))]) (.cond (T 59) .skip (.exit 2))) (.seq (.block 3 (.seq (.reg [a 62 (.fa 3 (T 3)), a 63 (.ld false 1 (T 62)), a 64 (.mv (T 8)), a 65 (.ia 4 (T 63) (T 64)), a 66 (.fa 2 (T 65)), a 67 (.ld false 1 (T 66)), a 68 (.fa 3 (T 3)), a 69 (.ld false 1 (T 68)), b 70 (.mv (T 7)), b 71 (.ia 4 (T 69) (T 70)), b 72 (.fa 2 (T 71)), b 73 (.ld false 1 (T 72)), b 74 (.sc (.bin .eql 9) [(T 67), (T 73)])]) (.cond (T 74) (.seq (.reg [b 6 (.mv (B false))]) .ret) .skip))) (.reg [b 60 (.mv (T 8)), b 61 (.sc (.bin .add 3) [(T 60), (I 1)]), b 8 (.mv (T 61))])))))))) (.reg [b 35 (.mv (T 7)), b 36 (.sc (.bin .add 3) [(T 35), (I 1)]), b 7 (.mv (T 36))])))))) (.seq (.reg [b 6 (.mv (B true))]) .ret))))))
theorem k26 : ∃ code, Tryz.prog.funcs[26]? = some Tryz.f26 ∧ Tryz.f26.body = some code ∧ comp Tryz.prog Tryz.f26.ntmps code = some c26 ∧ rvs Tryz.prog Tryz.f26.results.toList = some [(.t 6)] := ⟨_, Tryz.func26, rfl, by kernel_rfl, by kernel_rfl⟩
def c29 : ACode := (.seq (.reg [b 2 (.mv (S []))]) (.seq (.seq (.reg [b 5 (.mv (T 0)), b 6 (.sc (.bin .lss 3) [(T 5), (I 0)])]) (.cond (T 6) (.seq (.reg [b 3 (.mv (S []))]) (.seq (.seq (.reg [b 7 (.mv (T 0)), b 8 (.sc (.bin .quo 3) [(T 7), (I 10)]), b 9 (.sc (.bin .lss 3) [(T 8), (I 0)])]) (.cond (T 9) (.reg [b 10 (.mv (T 0)), b 11 (.sc (.bin .quo 3) [(T 10), (I 10)]), b 12 (.sc (.un .neg) [(T 11)]), b 13 (.call 29 [(T 12)]), b 3 (.mv (T 13))]) .skip)) (.seq (.reg [b 14 (.mv (T 3)), b 15 (.sc (.bin .add 9) [(S [45]), (T 14)]), b 16 (.mv (T 0)), b 17 (.sc (.bin .rem 3) [(T 16), (I 10)]), b 18 (.sc (.bin .sub 3) [(I 48), (T 17)]), b 19 (.sc (.cv 3 5) [(T 18)]), b 20 (.bs 5 1 [(T 19)]), b 21 (.bts (T 20)), b 22 (.sc (.bin .add 9) [(T 15), (T 21)]), b 2 (.mv (T 22))]) .ret))) .skip)) (.seq (.reg [b 23 (.mv (T 0)), b 24 (.sc (.bin .rem 3) [(T 23), (I 10)]), b 25 (.sc (.bin .add 3) [(I 48), (T 24)]), b 26 (.sc (.cv 3 5) [(T 25)]), b 27 (.bs 5 1 [(T 26)]), b 28 (.bts (T 27)), b 4 (.mv (T 28))]) (.seq (.seq (.reg [b 29 (.mv (T 0)), b 30 (.sc (.bin .geq 3) [(T 29), (I 10)])]) (.cond (T 30) (.reg [b 31 (.mv (T 0)), b 32 (.sc (.bin .quo 3) [(T 31), (I 10)]), b 33 (.call 29 [(T 32)]), b 34 (.mv (T 4)), b 35 (.sc (.bin .add 9) [(T 33), (T 34)]), b 4 (.mv (T 35))]) .skip)) (.seq (.reg [b 36 (.mv (T 4)), b 2 (.mv (T 36))]) .ret)))))
theorem k29 : ∃ code, Tryz.prog.funcs[29]? = some Tryz.f29 ∧ Tryz.f29.body = some code ∧ comp Tryz.prog Tryz.f29.ntmps code = some c29 ∧ rvs Tryz.prog Tryz.f29.results.toList = some [(.t 2)] := ⟨_, Tryz.func29, rfl, by kernel_rfl, by kernel_rfl⟩
def c39 : ACode := (.seq (.reg [b 1 (.box (T 0)), b 2 (.mv (B false))]) (.seq (.reg [b 3 (.fa 0 (T 1)), b 4 (.ld false 1 (T 3)), b 5 (.sc (.bin .eql 3) [(T 4), (I 2)]), b 6 (.mv (T 5)), bg 7 6 false (.fa 0 (T 1)), bg 8 6 false (.ld false 1 (T 7)), bg 9 6 false (.sc (.bin .eql 3) [(T 8), (I 4)]), b 10 (.pick (T 6) (B true) (T 9)), b 11 (.mv (T 10)), bg 12 11 false (.fa 0 (T 1)), bg 13 11 false (.ld false 1 (T 12)), bg 14 11 false (.sc (.bin .eql 3) [(T 13), (I 7)]), b 15 (.pick (T 11) (B true) (T 14)), b 16 (.mv (T 15)), bg 17 16 false (.fa 0 (T 1)), bg 18 16 false (.ld false 1 (T 17)), bg 19 16 false (.sc (.bin .eql 3) [(T 18), (I 9)]), b 20 (.pick (T 16) (B true) (T 19)), b 2 (.mv (T 20))]) .ret))
theorem k39 : ∃ code, Tryz.prog.funcs[39]? = some Tryz.f39 ∧ Tryz.f39.body = some code ∧ comp Tryz.prog Tryz.f39.ntmps code = some c39 ∧ rvs Tryz.prog Tryz.f39.results.toList = some [(.t 2)] := ⟨_, Tryz.func39, rfl, by kernel_rfl, by kernel_rfl⟩
def c40 : ACode := (.seq (.reg [b 2 (.box (T 0)), b 4 (.alloc [(.int .i64 0), (.int .i64 0), (.string ⟨#[]⟩), (.slice none 0 0)]), b 5 (.mv (I 0))]) (.seq (.reg [b 10 (.fa 3 (T 2)), b 11 (.ld false 1 (T 10)), b 12 (.mv (T 1)), b 13 (.ia 4 (T 11) (T 12)), b 14 (.ld true 4 (T 13)), b 15 (.call 23 [(T 14)]), b 9 (.mv (T 15)), b 16 (.ex (T 9) 0), b 17 (.ex (T 9) 1), b 6 (.alloc [(.int .i64 0), (.int .i64 0), (.string ⟨#[]⟩), (.slice none 0 0)]), b0 (.st 4 (T 6) (T 16)), b 7 (.mv (T 17))]) (.seq (.seq (.reg [b 18 (.mv (T 7)), b 19 (.sc (.bin .eql 3) [(T 18), (I 0)])]) (.cond (T 19) (.seq (.reg [b 20 (.ld true 4 (T 2)), b0 (.st 4 (T 4) (T 20)), b 5 (.mv (I 0))]) .ret) .skip)) (.seq (.reg [b 21 (.fa 0 (T 2)), b 22 (.ld false 1 (T 21)), b 23 (.fa 1 (T 2)), b 24 (.ld false 1 (T 23)), b 25 (.fa 2 (T 2)), b 26 (.ld false 1 (T 25)), b 27 (.bld [(.int .i64 0), (.int .i64 0), (.string ⟨#[]⟩), (.slice none 0 0)] [(0, (1, (T 22))), (1, (1, (T 24))), (2, (1, (T 26)))]), b 8 (.alloc [(.int .i64 0), (.int .i64 0), (.string ⟨#[]⟩), (.slice none 0 0)]), b0 (.st 4 (T 8) (T 27))]) (.seq (.reg [b 28 (.fa 3 (T 8)), b 29 (.ld false 1 (T 28)), b 30 (.fa 3 (T 2)), b 31 (.ld false 1 (T 30)), b 32 (.ap 24 4 56 (T 29) (T 31)), b 33 (.fa 3 (T 8)), b0 (.st 1 (T 33) (T 32))]) (.seq (.reg [b 34 (.fa 3 (T 8)), b 35 (.ld false 1 (T 34)), b 36 (.mv (T 1)), b 37 (.ld true 4 (T 6)), b 38 (.ia 4 (T 35) (T 36)), b0 (.st 4 (T 38) (T 37))]) (.seq (.reg [b 39 (.ld true 4 (T 8)), b 40 (.mv (T 7)), b0 (.st 4 (T 4) (T 39)), b 5 (.mv (T 40))]) .ret)))))))
theorem k40 : ∃ code, Tryz.prog.funcs[40]? = some Tryz.f40 ∧ Tryz.f40.body = some code ∧ comp Tryz.prog Tryz.f40.ntmps code = some c40 ∧ rvs Tryz.prog Tryz.f40.results.toList = some [(.c true 4 4), (.t 5)] := ⟨_, Tryz.func40, rfl, by kernel_rfl, by kernel_rfl⟩
def c41 : ACode := (.seq (.reg [b 1 (.box (T 0)), b 2 (.alloc [(.int .i64 0), (.int .i64 0), (.string ⟨#[]⟩), (.slice none 0 0)]), b 3 (.mv (I 0))]) (.seq (.reg [b 6 (.fa 3 (T 1)), b 7 (.ld false 1 (T 6)), b 8 (.ia 4 (T 7) (I 0)), b 9 (.ld true 4 (T 8)), b 4 (.alloc [(.int .i64 0), (.int .i64 0), (.string ⟨#[]⟩), (.slice none 0 0)]), b0 (.st 4 (T 4) (T 9))]) (.seq (.seq (.reg [b 5 (.mv (I 1))]) (.block 0 (.loop (.seq (.seq (.reg [b 10 (.mv (T 5)), b 11 (.fa 3 (T 1)), b 12 (.ld false 1 (T 11)), b 13 (.ln (T 12)), b 14 (.sc (.bin .lss 3) [(T 10), (T 13)]), b 15 (.mv (T 14)), bg 16 15 true (.fa 0 (T 4)), bg 17 15 true (.ld false 1 (T 16)), bg 18 15 true (.sc (.bin .eql 3) [(T 17), (I 4)]), b 19 (.pick (T 15) (T 18) (B false))]) (.cond (T 19) .skip (.exit 0))) (.seq (.block 1 (.seq (.reg [a 22 (.fa 3 (T 1)), a 23 (.ld false 1 (T 22)), a 24 (.mv (T 5)), a 25 (.ia 4 (T 23) (T 24)), a 26 (.fa 2 (T 25)), a 27 (.ld false 1 (T 26)), b 28 (.fa 2 (T 4)), b 29 (.ld false 1 (T 28)), b 30 (.sc (.bin .eql 9) [(T 27), (T 29)]), b 31 (.mv (T 30)), ag 32 31 true (.fa 3 (T 1)), ag 33 31 true (.ld false 1 (T 32)), ag 34 31 true (.mv (T 5)), ag 35 31 true (.ia 4 (T 33) (T 34)), ag 36 31 true (.fa 1 (T 35)), ag 37 31 true (.ld false 1 (T 36)), bg 38 31 true (.fa 3 (T 4)), bg 39 31 true (.ld false 1 (T 38)), bg 40 31 true (.ln (T 39)), bg 41 31 true (.sc (.bin .eql 3) [(T 37), (T 40)]), b 42 (.pick (T 31) (T 41) (B false))]) (.cond (T 42) (.seq (.reg [a 43 (.fa 3 (T 1)), a 44 (.ld false 1 (T 43)), a 45 (.mv (T 5)), a 46 (.ia 4 (T 44) (T 45)), a 47 (.fa 3 (T 46)), a 48 (.ld false 1 (T 47)), a 49 (.ia 4 (T 48) (I 0)), a 50 (.ld true 4 (T 49)), b 51 (.fa 3 (T 4)), b 52 (.ld false 1 (T 51)), b 53 (.call 63 [(T 50), (T 52)]), b0 (.st 4 (T 2) (T 53)), b 3 (.mv (I 2))]) .ret) .skip))) (.reg [b 20 (.mv (T 5)), b 21 (.sc (.bin .add 3) [(T 20), (I 1)]), b 5 (.mv (T 21))])))))) (.seq (.reg [b 54 (.call 43 []), b 55 (.ex (T 54) 0), b 56 (.ex (T 54) 1), b0 (.st 4 (T 2) (T 55)), b 3 (.mv (T 56))]) .ret))))
theorem k41 : ∃ code, Tryz.prog.funcs[41]? = some Tryz.f41 ∧ Tryz.f41.body = some code ∧ comp Tryz.prog Tryz.f41.ntmps code = some c41 ∧ rvs Tryz.prog Tryz.f41.results.toList = some [(.c true 4 2), (.t 3)] := ⟨_, Tryz.func41, rfl, by kernel_rfl, by kernel_rfl⟩
def c42 : ACode := (.seq (.reg [b 3 (.box (T 0)), b 5 (.box (T 2)), b 6 (.alloc [(.int .i64 0), (.int .i64 0), (.string ⟨#[]⟩), (.slice none 0 0)])]) (.seq (.reg [b 7 (.ld true 4 (T 3)), b 8 (.mv (T 1)), b 9 (.ld true 4 (T 5)), b 10 (.call 64 [(T 7), (T 8), (T 9), (I 0)]), b0 (.st 4 (T 6) (T 10))]) .ret))
theorem k42 : ∃ code, Tryz.prog.funcs[42]? = some Tryz.f42 ∧ Tryz.f42.body = some code ∧ comp Tryz.prog Tryz.f42.ntmps code = some c42 ∧ rvs Tryz.prog Tryz.f42.results.toList = some [(.c true 4 6)] := ⟨_, Tryz.func42, rfl, by kernel_rfl, by kernel_rfl⟩
def c43 : ACode := (.seq (.reg [b 0 (.alloc [(.int .i64 0), (.int .i64 0), (.string ⟨#[]⟩), (.slice none 0 0)]), b 1 (.mv (I 0))]) (.seq (.reg [b 2 (.bld [(.int .i64 0), (.int .i64 0), (.string ⟨#[]⟩), (.slice none 0 0)] [(0, (1, (I 9)))]), b0 (.st 4 (T 0) (T 2)), b 1 (.mv (I 4))]) .ret))
theorem k43 : ∃ code, Tryz.prog.funcs[43]? = some Tryz.f43 ∧ Tryz.f43.body = some code ∧ comp Tryz.prog Tryz.f43.ntmps code = some c43 ∧ rvs Tryz.prog Tryz.f43.results.toList = some [(.c true 4 0), (.t 1)] := ⟨_, Tryz.func43, rfl, by kernel_rfl, by kernel_rfl⟩
def c44 : ACode := (.seq (.reg [b 6 (.alloc [(.int .i64 0), (.int .i64 0), (.string ⟨#[]⟩), (.slice none 0 0)]), b 7 (.mv (I 0))]) (.seq (.seq (.reg [b 8 (.mv (T 0))]) (.block 0 (.seq (.reg [b 10 (.sc (.bin .eql 9) [(T 8), (S [43])]), b 9 (.mv (T 10))]) (.cond (T 9) (.seq (.reg [b 11 (.mv (T 1)), b 12 (.mv (T 2)), b 13 (.sc (.bin .add 3) [(T 11), (T 12)]), b 14 (.call 65 [(T 13)]), b 15 (.ex (T 14) 0), b 16 (.ex (T 14) 1), b0 (.st 4 (T 6) (T 15)), b 7 (.mv (T 16))]) .ret) (.seq (.reg [b 18 (.sc (.bin .eql 9) [(T 8), (S [45])]), b 17 (.mv (T 18))]) (.cond (T 17) (.seq (.reg [b 19 (.mv (T 1)), b 20 (.mv (T 2)), b 21 (.sc (.bin .sub 3) [(T 19), (T 20)]), b 22 (.call 65 [(T 21)]), b 23 (.ex (T 22) 0), b 24 (.ex (T 22) 1), b0 (.st 4 (T 6) (T 23)), b 7 (.mv (T 24))]) .ret) (.seq (.reg [b 26 (.sc (.bin .eql 9) [(T 8), (S [42])]), b 25 (.mv (T 26))]) (.cond (T 25) (.seq (.reg [b 27 (.mv (T 1)), b 28 (.mv (T 2)), b 29 (.sc (.bin .mul 3) [(T 27), (T 28)]), b 30 (.call 65 [(T 29)]), b 31 (.ex (T 30) 0), b 32 (.ex (T 30) 1), b0 (.st 4 (T 6) (T 31)), b 7 (.mv (T 32))]) .ret) (.seq (.reg [b 34 (.sc (.bin .eql 9) [(T 8), (S [47])]), b 33 (.mv (T 34))]) (.cond (T 33) (.seq (.seq (.reg [b 35 (.mv (T 2)), b 36 (.sc (.bin .eql 3) [(T 35), (I 0)])]) (.cond (T 36) (.seq (.reg [b 37 (.call 43 []), b 38 (.ex (T 37) 0), b 39 (.ex (T 37) 1), b0 (.st 4 (T 6) (T 38)), b 7 (.mv (T 39))]) .ret) .skip)) (.seq (.seq (.reg [b 40 (.mv (T 2)), b 41 (.sc (.bin .eql 3) [(T 40), (I (-1))])]) (.cond (T 41) (.seq (.reg [b 42 (.mv (T 1)), b 43 (.sc (.un .neg) [(T 42)]), b 44 (.call 65 [(T 43)]), b 45 (.ex (T 44) 0), b 46 (.ex (T 44) 1), b0 (.st 4 (T 6) (T 45)), b 7 (.mv (T 46))]) .ret) .skip)) (.seq (.reg [b 47 (.mv (T 1)), b 48 (.mv (T 2)), b 49 (.sc (.bin .quo 3) [(T 47), (T 48)]), b 50 (.call 65 [(T 49)]), b 51 (.ex (T 50) 0), b 52 (.ex (T 50) 1), b0 (.st 4 (T 6) (T 51)), b 7 (.mv (T 52))]) .ret))) .skip)))))))))) (.seq (.seq (.reg [b 53 (.mv (T 0)), b 54 (.sc (.bin .eql 9) [(T 53), (S [60])]), b 55 (.mv (T 54)), bg 56 55 true (.mv (T 1)), bg 57 55 true (.mv (T 2)), bg 58 55 true (.sc (.bin .lss 3) [(T 56), (T 57)]), b 59 (.pick (T 55) (T 58) (B false)), b 60 (.mv (T 59)), bg 61 60 false (.mv (T 0)), bg 62 60 false (.sc (.bin .eql 9) [(T 61), (S [61, 61])]), bg 63 60 false (.mv (T 62)), bg 64 63 true (.mv (T 1)), bg 65 63 true (.mv (T 2)), bg 66 63 true (.sc (.bin .eql 3) [(T 64), (T 65)]), bg 67 60 false (.pick (T 63) (T 66) (B false)), b 68 (.pick (T 60) (B true) (T 67))]) (.cond (T 68) (.seq (.reg [b 69 (.bld [(.int .i64 0), (.int .i64 0), (.string ⟨#[]⟩), (.slice none 0 0)] [(0, (1, (I 4))), (2, (1, (S [84, 114, 117, 101])))]), b0 (.st 4 (T 6) (T 69)), b 7 (.mv (I 3))]) .ret) .skip)) (.seq (.reg [b 70 (.bld [(.int .i64 0), (.int .i64 0), (.string ⟨#[]⟩), (.slice none 0 0)] [(0, (1, (I 4))), (2, (1, (S [70, 97, 108, 115, 101])))]), b0 (.st 4 (T 6) (T 70)), b 7 (.mv (I 3))]) .ret))))
theorem k44 : ∃ code, Tryz.prog.funcs[44]? = some Tryz.f44 ∧ Tryz.f44.body = some code ∧ comp Tryz.prog Tryz.f44.ntmps code = some c44 ∧ rvs Tryz.prog Tryz.f44.results.toList = some [(.c true 4 6), (.t 7)] := ⟨_, Tryz.func44, rfl, by kernel_rfl, by kernel_rfl⟩
def c45 : ACode := (.seq (.reg [b 3 (.box (T 0)), b 6 (.mv (B false))]) (.seq (.reg [b 10 (.fa 3 (T 3)), b 11 (.ld false 1 (T 10)), b 12 (.ln (T 11)), b 7 (.mv (T 12))]) (.seq (.reg [b 13 (.fa 2 (T 3)), b 14 (.ld false 1 (T 13)), b 15 (.sc (.bin .eql 9) [(T 14), (S [43])]), b 16 (.mv (T 15)), bg 17 16 false (.fa 2 (T 3)), bg 18 16 false (.ld false 1 (T 17)), bg 19 16 false (.sc (.bin .eql 9) [(T 18), (S [45])]), b 20 (.pick (T 16) (B true) (T 19)), b 21 (.mv (T 20)), bg 22 21 false (.fa 2 (T 3)), bg 23 21 false (.ld false 1 (T 22)), bg 24 21 false (.sc (.bin .eql 9) [(T 23), (S [42])]), b 25 (.pick (T 21) (B true) (T 24)), b 26 (.mv (T 25)), bg 27 26 false (.fa 2 (T 3)), bg 28 26 false (.ld false 1 (T 27)), bg 29 26 false (.sc (.bin .eql 9) [(T 28), (S [47])]), b 30 (.pick (T 26) (B true) (T 29)), b 31 (.mv (T 30)), bg 32 31 false (.fa 2 (T 3)), bg 33 31 false (.ld false 1 (T 32)), bg 34 31 false (.sc (.bin .eql 9) [(T 33), (S [60])]), b 35 (.pick (T 31) (B true) (T 34)), b 36 (.mv (T 35)), bg 37 36 false (.fa 2 (T 3)), bg 38 36 false (.ld false 1 (T 37)), bg 39 36 false (.sc (.bin .eql 9) [(T 38), (S [61, 61])]), b 40 (.pick (T 36) (B true) (T 39)), b 8 (.mv (T 40))]) (.seq (.reg [b 41 (.fa 2 (T 3)), b 42 (.ld false 1 (T 41)), b 43 (.sc (.bin .eql 9) [(T 42), (S [])]), b 44 (.mv (T 43)), bg 45 44 true (.fa 1 (T 3)), bg 46 44 true (.ld false 1 (T 45)), bg 47 44 true (.sc (.bin .eql 3) [(T 46), (I 0)]), b 48 (.pick (T 44) (T 47) (B false)), b 9 (.mv (T 48))]) (.seq (.seq (.reg [b 49 (.mv (T 2))]) (.cond (T 49) (.seq (.reg [b 50 (.fa 0 (T 3)), b 51 (.ld false 1 (T 50)), b 52 (.sc (.bin .eql 3) [(T 51), (I 6)]), b 53 (.mv (T 52)), bg 54 53 true (.fa 2 (T 3)), bg 55 53 true (.ld false 1 (T 54)), bg 56 53 true (.call 66 [(T 55)]), b 57 (.pick (T 53) (T 56) (B false)), b 58 (.mv (T 57)), bg 59 58 true (.fa 1 (T 3)), bg 60 58 true (.ld false 1 (T 59)), bg 61 58 true (.sc (.bin .geq 3) [(T 60), (I 0)]), b 62 (.pick (T 58) (T 61) (B false)), b 63 (.mv (T 62)), bg 64 63 true (.fa 1 (T 3)), bg 65 63 true (.ld false 1 (T 64)), bg 66 63 true (.sc (.bin .leq 3) [(T 65), (I 8)]), b 67 (.pick (T 63) (T 66) (B false)), b 68 (.mv (T 67)), bg 69 68 true (.mv (T 7)), bg 70 68 true (.sc (.bin .eql 3) [(T 69), (I 1)]), b 71 (.pick (T 68) (T 70) (B false)), b 6 (.mv (T 71))]) .ret) .skip)) (.seq (.seq (.reg [b 72 (.fa 0 (T 3)), b 73 (.ld false 1 (T 72))]) (.block 0 (.seq (.reg [b 75 (.sc (.bin .eql 3) [(T 73), (I 1)]), b 74 (.mv (T 75))]) (.cond (T 74) (.seq (.reg [b 76 (.fa 2 (T 3)), b 77 (.ld false 1 (T 76)), b 78 (.sc (.bin .eql 9) [(T 77), (S [])]), b 79 (.mv (T 78)), bg 80 79 true (.mv (T 7)), bg 81 79 true (.sc (.bin .eql 3) [(T 80), (I 0)]), b 82 (.pick (T 79) (T 81) (B false)), b 83 (.mv (T 82)), bg 84 83 true (.fa 1 (T 3)), bg 85 83 true (.ld false 1 (T 84)), bg 86 83 true (.sc (.bin .geq 3) [(T 85), (I 0)]), b 87 (.pick (T 83) (T 86) (B false)), b 88 (.mv (T 87)), bg 89 88 true (.fa 1 (T 3)), bg 90 88 true (.ld false 1 (T 89)), bg 91 88 true (.mv (T 1)), bg 92 88 true (.sc (.bin .lss 3) [(T 90), (T 91)]), b 93 (.pick (T 88) (T 92) (B false)), b 6 (.mv (T 93))]) .ret) (.seq (.reg [b 95 (.sc (.bin .eql 3) [(T 73), (I 2)]), b 94 (.mv (T 95))]) (.cond (T 94) (.seq (.reg [b 96 (.mv (T 9)), b 97 (.mv (T 96)), bg 98 97 true (.mv (T 7)), bg 99 97 true (.sc (.bin .eql 3) [(T 98), (I 1)]), b 100 (.pick (T 97) (T 99) (B false)), b 6 (.mv (T 100))]) .ret) (.seq (.reg [b 102 (.sc (.bin .eql 3) [(T 73), (I 3)]), b 101 (.mv (T 102))]) (.cond (T 101) (.seq (.reg [b 103 (.mv (T 9)), b 104 (.mv (T 103)), bg 105 104 true (.mv (T 7)), bg 106 104 true (.sc (.bin .eql 3) [(T 105), (I 2)]), b 107 (.pick (T 104) (T 106) (B false)), b 6 (.mv (T 107))]) .ret) (.seq (.reg [b 109 (.sc (.bin .eql 3) [(T 73), (I 4)]), b 108 (.mv (T 109))]) (.cond (T 108) (.seq (.reg [b 110 (.fa 2 (T 3)), b 111 (.ld false 1 (T 110)), b 112 (.call 66 [(T 111)]), b 113 (.mv (T 112)), bg 114 113 true (.fa 1 (T 3)), bg 115 113 true (.ld false 1 (T 114)), bg 116 113 true (.sc (.bin .eql 3) [(T 115), (I 0)]), b 117 (.pick (T 113) (T 116) (B false)), b 118 (.mv (T 117)), bg 119 118 true (.mv (T 7)), bg 120 118 true (.sc (.bin .leq 3) [(T 119), (I 8)]), b 121 (.pick (T 118) (T 120) (B false)), b 6 (.mv (T 121))]) .ret) (.seq (.reg [b 123 (.sc (.bin .eql 3) [(T 73), (I 5)]), b 122 (.mv (T 123))]) (.cond (T 122) (.seq (.reg [b 124 (.mv (T 9)), b 125 (.mv (T 124)), bg 126 125 true (.mv (T 7)), bg 127 125 true (.sc (.bin .geq 3) [(T 126), (I 2)]), b 128 (.pick (T 125) (T 127) (B false)), b 129 (.mv (T 128)), bg 130 129 true (.mv (T 7)), bg 131 129 true (.sc (.bin .leq 3) [(T 130), (I 9)]), b 132 (.pick (T 129) (T 131) (B false)), b 6 (.mv (T 132))]) .ret) (.seq (.reg [b 134 (.sc (.bin .eql 3) [(T 73), (I 7)]), b 133 (.mv (T 134))]) (.cond (T 133) (.seq (.reg [b 135 (.fa 2 (T 3)), b 136 (.ld false 1 (T 135)), b 137 (.sc (.bin .eql 9) [(T 136), (S [])]), b 138 (.mv (T 137)), bg 139 138 true (.mv (T 7)), bg 140 138 true (.sc (.bin .eql 3) [(T 139), (I 0)]), b 141 (.pick (T 138) (T 140) (B false)), b 6 (.mv (T 141))]) .ret) (.seq (.reg [b 143 (.sc (.bin .eql 3) [(T 73), (I 8)]), b 142 (.mv (T 143))]) (.cond (T 142) (.seq (.reg [b 144 (.mv (T 8)), b 145 (.mv (T 144)), bg 146 145 true (.fa 1 (T 3)), bg 147 145 true (.ld false 1 (T 146)), bg 148 145 true (.sc (.bin .eql 3) [(T 147), (I 0)]), b 149 (.pick (T 145) (T 148) (B false)), b 150 (.mv (T 149)), bg 151 150 true (.mv (T 7)), bg 152 150 true (.sc (.bin .eql 3) [(T 151), (I 2)]), b 153 (.pick (T 150) (T 152) (B false)), b 6 (.mv (T 153))]) .ret) (.seq (.reg [b 155 (.sc (.bin .eql 3) [(T 73), (I 9)]), b 154 (.mv (T 155))]) (.cond (T 154) (.seq (.reg [b 156 (.mv (T 9)), b 157 (.mv (T 156)), bg 158 157 true (.mv (T 7)), bg 159 157 true (.sc (.bin .eql 3) [(T 158), (I 0)]), b 160 (.pick (T 157) (T 159) (B false)), b 6 (.mv (T 160))]) .ret) .skip)))))))))))))))))) (.seq (.reg [b 6 (.mv (B false))]) .ret)))))))
theorem k45 : ∃ code, Tryz.prog.funcs[45]? = some Tryz.f45 ∧ Tryz.f45.body = some code ∧ comp Tryz.prog Tryz.f45.ntmps code = some c45 ∧ rvs Tryz.prog Tryz.f45.results.toList = some [(.t 6)] := ⟨_, Tryz.func45, rfl, by kernel_rfl, by kernel_rfl⟩
def c63 : ACode := (.seq (.reg [b 2 (.box (T 0)), b 4 (.alloc [(.int .i64 0), (.int .i64 0), (.string ⟨#[]⟩), (.slice none 0 0)])]) (.seq (.reg [b 5 (.ld true 4 (T 2)), b 6 (.mv (T 1)), b 7 (.call 93 [(T 5), (T 6), (I 0)]), b0 (.st 4 (T 4) (T 7))]) .ret))
theorem k63 : ∃ code, Tryz.prog.funcs[63]? = some Tryz.f63 ∧ Tryz.f63.body = some code ∧ comp Tryz.prog Tryz.f63.ntmps code = some c63 ∧ rvs Tryz.prog Tryz.f63.results.toList = some [(.c true 4 4)] := ⟨_, Tryz.func63, rfl, by kernel_rfl, by kernel_rfl⟩
def c64 : ACode := (.seq (.reg [b 4 (.box (T 0)), b 6 (.box (T 2)), b 8 (.alloc [(.int .i64 0), (.int .i64 0), (.string ⟨#[]⟩), (.slice none 0 0)])]) (.seq (.seq (.reg [b 11 (.fa 0 (T 4)), b 12 (.ld false 1 (T 11)), b 13 (.sc (.bin .eql 3) [(T 12), (I 1)])]) (.cond (T 13) (.seq (.seq (.reg [b 14 (.fa 1 (T 4)), b 15 (.ld false 1 (T 14)), b 16 (.mv (T 1)), b 17 (.mv (T 3)), b 18 (.sc (.bin .add 3) [(T 16), (T 17)]), b 19 (.sc (.bin .eql 3) [(T 15), (T 18)])]) (.cond (T 19) (.seq (.reg [b 20 (.ld true 4 (T 6)), b 21 (.mv (T 3)), b 22 (.call 94 [(T 20), (T 21), (I 0)]), b0 (.st 4 (T 8) (T 22))]) .ret) .skip)) (.seq (.seq (.reg [b 23 (.fa 1 (T 4)), b 24 (.ld false 1 (T 23)), b 25 (.mv (T 1)), b 26 (.mv (T 3)), b 27 (.sc (.bin .add 3) [(T 25), (T 26)]), b 28 (.sc (.bin .gtr 3) [(T 24), (T 27)])]) (.cond (T 28) (.reg [b 29 (.fa 1 (T 4)), b 30 (.ld false 1 (T 29)), b 31 (.sc (.bin .sub 3) [(T 30), (I 1)]), b 32 (.fa 1 (T 4)), b0 (.st 1 (T 32) (T 31))]) .skip)) (.seq (.reg [b 33 (.ld true 4 (T 4)), b0 (.st 4 (T 8) (T 33))]) .ret))) .skip)) (.seq (.reg [b 34 (.fa 0 (T 4)), b 35 (.ld false 1 (T 34)), b 36 (.fa 1 (T 4)), b 37 (.ld false 1 (T 36)), b 38 (.fa 2 (T 4)), b 39 (.ld false 1 (T 38)), b 40 (.bld [(.int .i64 0), (.int .i64 0), (.string ⟨#[]⟩), (.slice none 0 0)] [(0, (1, (T 35))), (1, (1, (T 37))), (2, (1, (T 39)))]), b 9 (.alloc [(.int .i64 0), (.int .i64 0), (.string ⟨#[]⟩), (.slice none 0 0)]), b0 (.st 4 (T 9) (T 40))]) (.seq (.seq (.reg [b 10 (.mv (I 0))]) (.block 0 (.loop (.seq (.seq (.reg [b 41 (.mv (T 10)), b 42 (.fa 3 (T 4)), b 43 (.ld false 1 (T 42)), b 44 (.ln (T 43)), b 45 (.sc (.bin .lss 3) [(T 41), (T 44)])]) (.cond (T 45) .skip (.exit 0))) (.seq (.block 1 (.reg [a 48 (.fa 3 (T 9)), a 49 (.ld false 1 (T 48)), a 50 (.fa 3 (T 4)), a 51 (.ld false 1 (T 50)), a 52 (.mv (T 10)), a 53 (.ia 4 (T 51) (T 52)), a 54 (.ld true 4 (T 53)), a 55 (.mv (T 1)), a 56 (.ld true 4 (T 6)), a 57 (.mv (T 3)), b 58 (.ld true 4 (T 4)), b 59 (.call 95 [(T 58)]), b 60 (.sc (.bin .add 3) [(T 57), (T 59)]), b 61 (.call 64 [(T 54), (T 55), (T 56), (T 60)]), b 62 (.bs 24 4 [(T 61)]), b 63 (.ap 24 4 56 (T 49) (T 62)), b 64 (.fa 3 (T 9)), b0 (.st 1 (T 64) (T 63))])) (.reg [b 46 (.mv (T 10)), b 47 (.sc (.bin .add 3) [(T 46), (I 1)]), b 10 (.mv (T 47))])))))) (.seq (.reg [b 65 (.ld true 4 (T 9)), b0 (.st 4 (T 8) (T 65))]) .ret)))))
theorem k64 : ∃ code, Tryz.prog.funcs[64]? = some Tryz.f64 ∧ Tryz.f64.body = some code ∧ comp Tryz.prog Tryz.f64.ntmps code = some c64 ∧ rvs Tryz.prog Tryz.f64.results.toList = some [(.c true 4 8)] := ⟨_, Tryz.func64, rfl, by kernel_rfl, by kernel_rfl⟩
def c65 : ACode := (.seq (.reg [b 2 (.alloc [(.int .i64 0), (.int .i64 0), (.string ⟨#[]⟩), (.slice none 0 0)]), b 3 (.mv (I 0))]) (.seq (.reg [b 4 (.mv (T 0)), b 5 (.bld [(.int .i64 0), (.int .i64 0), (.string ⟨#[]⟩), (.slice none 0 0)] [(0, (1, (I 7))), (1, (1, (T 4)))]), b0 (.st 4 (T 2) (T 5)), b 3 (.mv (I 3))]) .ret))
theorem k65 : ∃ code, Tryz.prog.funcs[65]? = some Tryz.f65 ∧ Tryz.f65.body = some code ∧ comp Tryz.prog Tryz.f65.ntmps code = some c65 ∧ rvs Tryz.prog Tryz.f65.results.toList = some [(.c true 4 2), (.t 3)] := ⟨_, Tryz.func65, rfl, by kernel_rfl, by kernel_rfl⟩
def c66 : ACode := (.seq (.reg [b 2 (.mv (B false))]) (.seq (.seq (.reg [b 5 (.mv (T 0)), b 6 (.sc (.bin .eql 9) [(T 5), (S [])])]) (.cond (T 6) (.seq (.reg [b 2 (.mv (B false))]) .ret) .skip)) (.seq (.reg [b 8 (.mv (T 0)), b 9 (.call 68 [(T 8), (I 0)]), b 7 (.mv (T 9)), b 10 (.ex (T 7) 0), b 11 (.ex (T 7) 1), b 3 (.alloc [(.int .i64 0), (.string ⟨#[]⟩), (.int .i64 0), (.int .i64 0)]), b0 (.st 4 (T 3) (T 10)), b 4 (.mv (T 11))]) (.seq (.reg [b 12 (.mv (T 4)), b 13 (.sc (.bin .eql 30) [(T 12), (I 0)]), b 14 (.mv (T 13)), bg 15 14 true (.fa 0 (T 3)), bg 16 14 true (.ld false 1 (T 15)), bg 17 14 true (.sc (.bin .eql 3) [(T 16), (I 2)]), b 18 (.pick (T 14) (T 17) (B false)), b 19 (.mv (T 18)), bg 20 19 true (.fa 1 (T 3)), bg 21 19 true (.ld false 1 (T 20)), bg 22 19 true (.mv (T 0)), bg 23 19 true (.sc (.bin .eql 9) [(T 21), (T 22)]), b 24 (.pick (T 19) (T 23) (B false)), b 2 (.mv (T 24))]) .ret))))
theorem k66 : ∃ code, Tryz.prog.funcs[66]? = some Tryz.f66 ∧ Tryz.f66.body = some code ∧ comp Tryz.prog Tryz.f66.ntmps code = some c66 ∧ rvs Tryz.prog Tryz.f66.results.toList = some [(.t 2)] := ⟨_, Tryz.func66, rfl, by kernel_rfl, by kernel_rfl⟩
def c93 : ACode := (.seq (.reg [b 3 (.box (T 0)), b 6 (.alloc [(.int .i64 0), (.int .i64 0), (.string ⟨#[]⟩), (.slice none 0 0)])]) (.seq (.seq (.reg [b 9 (.fa 0 (T 3)), b 10 (.ld false 1 (T 9)), b 11 (.sc (.bin .eql 3) [(T 10), (I 1)])]) (.cond (T 11) (.seq (.seq (.reg [b 12 (.fa 1 (T 3)), b 13 (.ld false 1 (T 12)), b 14 (.mv (T 2)), b 15 (.sc (.bin .lss 3) [(T 13), (T 14)])]) (.cond (T 15) (.seq (.reg [b 16 (.ld true 4 (T 3)), b0 (.st 4 (T 6) (T 16))]) .ret) .skip)) (.seq (.seq (.reg [b 17 (.fa 1 (T 3)), b 18 (.ld false 1 (T 17)), b 19 (.mv (T 2)), b 20 (.mv (T 1)), b 21 (.ln (T 20)), b 22 (.sc (.bin .add 3) [(T 19), (T 21)]), b 23 (.sc (.bin .lss 3) [(T 18), (T 22)])]) (.cond (T 23) (.seq (.reg [b 24 (.mv (T 1)), b 25 (.mv (T 1)), b 26 (.ln (T 25)), b 27 (.sc (.bin .sub 3) [(T 26), (I 1)]), b 28 (.fa 1 (T 3)), b 29 (.ld false 1 (T 28)), b 30 (.mv (T 2)), b 31 (.sc (.bin .sub 3) [(T 29), (T 30)]), b 32 (.sc (.bin .sub 3) [(T 27), (T 31)]), b 33 (.ia 4 (T 24) (T 32)), b 34 (.ld true 4 (T 33)), b 35 (.mv (T 2)), b 36 (.call 94 [(T 34), (T 35), (I 0)]), b0 (.st 4 (T 6) (T 36))]) .ret) .skip)) (.seq (.reg [b 37 (.fa 1 (T 3)), b 38 (.ld false 1 (T 37)), b 39 (.mv (T 1)), b 40 (.ln (T 39)), b 41 (.sc (.bin .sub 3) [(T 38), (T 40)]), b 42 (.fa 1 (T 3)), b0 (.st 1 (T 42) (T 41))]) (.seq (.reg [b 43 (.ld true 4 (T 3)), b0 (.st 4 (T 6) (T 43))]) .ret)))) .skip)) (.seq (.reg [b 44 (.fa 0 (T 3)), b 45 (.ld false 1 (T 44)), b 46 (.fa 1 (T 3)), b 47 (.ld false 1 (T 46)), b 48 (.fa 2 (T 3)), b 49 (.ld false 1 (T 48)), b 50 (.bld [(.int .i64 0), (.int .i64 0), (.string ⟨#[]⟩), (.slice none 0 0)] [(0, (1, (T 45))), (1, (1, (T 47))), (2, (1, (T 49)))]), b 7 (.alloc [(.int .i64 0), (.int .i64 0), (.string ⟨#[]⟩), (.slice none 0 0)]), b0 (.st 4 (T 7) (T 50))]) (.seq (.seq (.reg [b 8 (.mv (I 0))]) (.block 0 (.loop (.seq (.seq (.reg [b 51 (.mv (T 8)), b 52 (.fa 3 (T 3)), b 53 (.ld false 1 (T 52)), b 54 (.ln (T 53)), b 55 (.sc (.bin .lss 3) [(T 51), (T 54)])]) (.cond (T 55) .skip (.exit 0))) (.seq (.block 1 (.reg [a 58 (.fa 3 (T 7)), a 59 (.ld false 1 (T 58)), a 60 (.fa 3 (T 3)), a 61 (.ld false 1 (T 60)), a 62 (.mv (T 8)), a 63 (.ia 4 (T 61) (T 62)), a 64 (.ld true 4 (T 63)), a 65 (.mv (T 1)), a 66 (.mv (T 2)), b 67 (.ld true 4 (T 3)), b 68 (.call 95 [(T 67)]), b 69 (.sc (.bin .add 3) [(T 66), (T 68)]), b 70 (.call 93 [(T 64), (T 65), (T 69)]), b 71 (.bs 24 4 [(T 70)]), b 72 (.ap 24 4 56 (T 59) (T 71)), b 73 (.fa 3 (T 7)), b0 (.st 1 (T 73) (T 72))])) (.reg [b 56 (.mv (T 8)), b 57 (.sc (.bin .add 3) [(T 56), (I 1)]), b 8 (.mv (T 57))])))))) (.seq (.reg [b 74 (.ld true 4 (T 7)), b0 (.st 4 (T 6) (T 74))]) .ret)))))
theorem k93 : ∃ code, Tryz.prog.funcs[93]? = some Tryz.f93 ∧ Tryz.f93.body = some code ∧ comp Tryz.prog Tryz.f93.ntmps code = some c93 ∧ rvs Tryz.prog Tryz.f93.results.toList = some [(.c true 4 6)] := ⟨_, Tryz.func93, rfl, by kernel_rfl, by kernel_rfl⟩
def c94 : ACode := (.seq (.reg [b 3 (.box (T 0)), b 6 (.alloc [(.int .i64 0), (.int .i64 0), (.string ⟨#[]⟩), (.slice none 0 0)])]) (.seq (.seq (.reg [b 9 (.fa 0 (T 3)), b 10 (.ld false 1 (T 9)), b 11 (.sc (.bin .eql 3) [(T 10), (I 1)])]) (.cond (T 11) (.seq (.seq (.reg [b 12 (.fa 1 (T 3)), b 13 (.ld false 1 (T 12)), b 14 (.mv (T 2)), b 15 (.sc (.bin .geq 3) [(T 13), (T 14)])]) (.cond (T 15) (.reg [b 16 (.fa 1 (T 3)), b 17 (.ld false 1 (T 16)), b 18 (.mv (T 1)), b 19 (.sc (.bin .add 3) [(T 17), (T 18)]), b 20 (.fa 1 (T 3)), b0 (.st 1 (T 20) (T 19))]) .skip)) (.seq (.reg [b 21 (.ld true 4 (T 3)), b0 (.st 4 (T 6) (T 21))]) .ret)) .skip)) (.seq (.reg [b 22 (.fa 0 (T 3)), b 23 (.ld false 1 (T 22)), b 24 (.fa 1 (T 3)), b 25 (.ld false 1 (T 24)), b 26 (.fa 2 (T 3)), b 27 (.ld false 1 (T 26)), b 28 (.bld [(.int .i64 0), (.int .i64 0), (.string ⟨#[]⟩), (.slice none 0 0)] [(0, (1, (T 23))), (1, (1, (T 25))), (2, (1, (T 27)))]), b 7 (.alloc [(.int .i64 0), (.int .i64 0), (.string ⟨#[]⟩), (.slice none 0 0)]), b0 (.st 4 (T 7) (T 28))]) (.seq (.seq (.reg [b 8 (.mv (I 0))]) (.block 0 (.loop (.seq (.seq (.reg [b 29 (.mv (T 8)), b 30 (.fa 3 (T 3)), b 31 (.ld false 1 (T 30)), b 32 (.ln (T 31)), b 33 (.sc (.bin .lss 3) [(T 29), (T 32)])]) (.cond (T 33) .skip (.exit 0))) (.seq (.block 1 (.reg [a 36 (.fa 3 (T 7)), a 37 (.ld false 1 (T 36)), a 38 (.fa 3 (T 3)), a 39 (.ld false 1 (T 38)), a 40 (.mv (T 8)), a 41 (.ia 4 (T 39) (T 40)), a 42 (.ld true 4 (T 41)), a 43 (.mv (T 1)), a 44 (.mv (T 2)), b 45 (.ld true 4 (T 3)), b 46 (.call 95 [(T 45)]), b 47 (.sc (.bin .add 3) [(T 44), (T 46)]), b 48 (.call 94 [(T 42), (T 43), (T 47)]), b 49 (.bs 24 4 [(T 48)]), b 50 (.ap 24 4 56 (T 37) (T 49)), b 51 (.fa 3 (T 7)), b0 (.st 1 (T 51) (T 50))])) (.reg [b 34 (.mv (T 8)), b 35 (.sc (.bin .add 3) [(T 34), (I 1)]), b 8 (.mv (T 35))])))))) (.seq (.reg [b 52 (.ld true 4 (T 7)), b0 (.st 4 (T 6) (T 52))]) .ret)))))
theorem k94 : ∃ code, Tryz.prog.funcs[94]? = some Tryz.f94 ∧ Tryz.f94.body = some code ∧ comp Tryz.prog Tryz.f94.ntmps code = some c94 ∧ rvs Tryz.prog Tryz.f94.results.toList = some [(.c true 4 6)] := ⟨_, Tryz.func94, rfl, by kernel_rfl, by kernel_rfl⟩
def c95 : ACode := (.seq (.reg [b 1 (.box (T 0)), b 2 (.mv (I 0))]) (.seq (.seq (.reg [b 3 (.fa 0 (T 1)), b 4 (.ld false 1 (T 3)), b 5 (.sc (.bin .eql 3) [(T 4), (I 2)])]) (.cond (T 5) (.seq (.reg [b 2 (.mv (I 1))]) .ret) .skip)) (.seq (.seq (.reg [b 6 (.fa 0 (T 1)), b 7 (.ld false 1 (T 6)), b 8 (.sc (.bin .eql 3) [(T 7), (I 6)])]) (.cond (T 8) (.seq (.reg [b 9 (.fa 1 (T 1)), b 10 (.ld false 1 (T 9)), b 2 (.mv (T 10))]) .ret) .skip)) (.seq (.reg [b 2 (.mv (I 0))]) .ret))))
theorem k95 : ∃ code, Tryz.prog.funcs[95]? = some Tryz.f95 ∧ Tryz.f95.body = some code ∧ comp Tryz.prog Tryz.f95.ntmps code = some c95 ∧ rvs Tryz.prog Tryz.f95.results.toList = some [(.t 2)] := ⟨_, Tryz.func95, rfl, by kernel_rfl, by kernel_rfl⟩
end Go.Proofs.YtnjmilelifmfpaaGreatDoor.Ev

namespace Go.Proofs.YtnjmilelifmfpaaGreatDoor.Ev
open Go Go.RowKit
open HCore (wt wts may same height heights size sizes)
set_option linter.unusedSimpArgs false
set_option linter.unusedVariables false
abbrev cX (x : Tm) : List AV := [.s (.int .i64 x.f0), .s (.int .i64 x.f1), .s (.string x.f2), .row (encTs x.f3)]
theorem part {l : List Tm} {i : Nat} (h : (i : Int) < (encTs l).length) : ∃ y, l[i]? = some y ∧ y ∈ l ∧ i < l.length := by
 rw [encTs_len] at h
 have h' : i < l.length := by omega
 exact ⟨l[i], by simp, List.getElem_mem h', h'⟩
theorem fin_at {l : List Tm} {i : Nat} (h : i ≤ l.length) (q : ¬ (i : Int) < (encTs l).length) : i = l.length := by rw [encTs_len] at q; omega
theorem nxt {i : Nat} (h : i < 4000000000) : IntKind.i64.wrap ((i : Int) + 1) = ((i + 1 : Nat) : Int) := by rw [wr (by omega) (by omega)]; omega
def DepthS (x : Tm) (i : Nat) : AS := ⟨tm [(4, .s (.int .i64 i)), (3, .s (.int .i64 (heights (x.f3.take i)))), (1, .ptr 0 0)], bm [(0, some (cX x))], bm [], 1⟩
abbrev TDepth (n : Nat) : Spec := fun args out => ∃ x : Tm, args = [.agg (encT x)] ∧ height x < n ∧ size x ≤ 1000000000 ∧ out = .ret (.s (.int .i64 (height x)))
theorem c_depth {J : JW} (hJ : JOk J) : ∀ n, Con Tryz.prog J 10 (TDepth n)
 | 0 => fun args out ⟨x, _, h, _⟩ => by omega
 | n + 1 => by
  obtain ⟨code, h1, h2, h3, h4⟩ := k10
  refine con (ok_cons (c_depth hJ n) ok_nil) hJ h1 h2 h3 h4 fun args out h => ?_
  obtain ⟨x, rfl, hn, hw, rfl⟩ := h
  refine ⟨rfl, by rw [Tryz.ntmps10]; simp, ?_⟩
  have s4 := size_of x
  have s2 := height_of x
  have s5 := len_sizes x.f3
  have s6 := height_le_size x
  rw [encT_is]
  unfold c10
  refine go ?_
  refine count x.f3.length (DepthS x) (by unfold DepthS; rw [show heights (x.f3.take 0) = 0 from rfl]; exact lm [(0, 0)]) fun i hi => ?_
  unfold DepthS
  refine go ?_
  by_cases q : (i : Int) < (encTs x.f3).length
  ·simp only [q, decide_true]
   obtain ⟨y, hy, hm, hl⟩ := part q
   have s1 := height_mem hm
   have s3 := sizes_mem hm
   simp only [eget hy]
   refine go ?_
   refine ⟨false, _, ⟨y, by rw [encT_is], by omega, by omega, rfl⟩, ?_⟩
   refine go ?_
   rw [nxt (by omega), show (if (height y : Int) > (heights (x.f3.take i) : Int) then (height y : Int) else (heights (x.f3.take i) : Int)) = (heights (x.f3.take (i + 1)) : Int) by rw [heights_take hy]; split <;> omega]
   exact ⟨hl, lm [(0, 0)]⟩
  ·simp only [q, decide_false]
   have := fin_at hi q
   subst this
   rw [take_len]
   refine go ?_
   rw [wr (by omega) (by omega), s2]
   rfl
abbrev TSize (n : Nat) : Spec := fun args out => ∃ x : Tm, args = [.agg (encT x)] ∧ height x < n ∧ size x ≤ 1000000000 ∧ out = .ret (.s (.int .i64 (size x)))
def CSizeS (x : Tm) (i : Nat) : AS := ⟨tm [(9, .s (.int .i64 i)), (3, .s (.int .i64 ((sizes (x.f3.take i) + 1 : Nat) : Int))), (7, .row (encTs x.f3)), (8, .s (.int .i64 (encTs x.f3).length))], bm [], bm [], 1⟩
theorem c_size {J : JW} (hJ : JOk J) : ∀ n, Con Tryz.prog J 24 (TSize n)
 | 0 => fun args out ⟨x, _, h, _⟩ => by omega
 | n + 1 => by
  obtain ⟨code, h1, h2, h3, h4⟩ := k24
  refine con (ok_cons (c_size hJ n) ok_nil) hJ h1 h2 h3 h4 fun args out h => ?_
  obtain ⟨x, rfl, hn, hw, rfl⟩ := h
  refine ⟨rfl, by rw [Tryz.ntmps24]; simp, ?_⟩
  have s4 := size_of x
  have s2 := height_of x
  have s5 := len_sizes x.f3
  rw [encT_is]
  unfold c24
  refine go ?_
  refine count x.f3.length (CSizeS x) (by unfold CSizeS; rw [show sizes (x.f3.take 0) = 0 from rfl]; exact lm []) fun i hi => ?_
  unfold CSizeS
  refine go ?_
  by_cases q : (i : Int) < (encTs x.f3).length
  ·simp only [q, decide_true]
   obtain ⟨y, hy, hm, hl⟩ := part q
   have s1 := height_mem hm
   have s3 := sizes_mem hm
   have s6 := stake_le (l := x.f3) (i := i)
   simp only [eget hy]
   refine go ?_
   refine ⟨false, _, ⟨y, by rw [encT_is], by omega, by omega, rfl⟩, ?_⟩
   refine go ?_
   rw [nxt (by omega), wr (i := ((sizes (x.f3.take i) + 1 : Nat) : Int) + (size y : Int)) (by omega) (by omega), show ((sizes (x.f3.take i) + 1 : Nat) : Int) + (size y : Int) = ((sizes (x.f3.take (i + 1)) + 1 : Nat) : Int) by rw [sizes_take hy]; omega]
   exact ⟨hl, lm []⟩
  ·simp only [q, decide_false]
   have := fin_at hi q
   subst this
   rw [take_len]
   refine go ?_
   rw [s4]
end Go.Proofs.YtnjmilelifmfpaaGreatDoor.Ev

namespace Go.Proofs.YtnjmilelifmfpaaGreatDoor.Ev
open Go Go.RowKit
open HCore (wt wts may same height heights size sizes)
set_option linter.unusedSimpArgs false
set_option linter.unusedVariables false
def fewS (x : Tm) (deep acc : Int) (i : Nat) : AS := ⟨tm [(7, .s (.int .i64 i)), (1, .s (.int .i64 acc)), (2, .s (.int .i64 deep)), (3, .ptr 0 0)], bm [(0, some (cX x))], bm [], 1⟩
mutual
def few : Tm → Int → Int → Int
 | ⟨k, n, s, l⟩, left, deep => if left < 1 ∨ deep < 1 then -1 else fews l (left - 1) (deep - 1)
def fews : List Tm → Int → Int → Int
 | [], left, _ => left
 | x :: r, left, deep => if few x left deep < 0 then -1 else fews r (few x left deep) deep
end
theorem few_of (x : Tm) (left deep : Int) : few x left deep = if left < 1 ∨ deep < 1 then -1 else fews x.f3 (left - 1) (deep - 1) := by cases x; rw [few]
mutual
theorem few_is : ∀ (x : Tm) (left deep : Int), -1 ≤ few x left deep ∧ (few x left deep ≤ left ∨ few x left deep = -1) ∧ (0 ≤ few x left deep → few x left deep + size x = left ∧ (height x : Int) ≤ deep)
 | ⟨k, n, s, l⟩, left, deep => by
  rw [few]
  split
  ·exact ⟨by omega, by omega, by omega⟩
  ·have := fews_is l (left - 1) (deep - 1) (by omega)
   refine ⟨this.1, by omega, fun h => ?_⟩
   have h2 := this.2.2 h
   simp only [size, height]
   omega
theorem fews_is : ∀ (l : List Tm) (left deep : Int), 0 ≤ left → -1 ≤ fews l left deep ∧ (fews l left deep ≤ left) ∧ (0 ≤ fews l left deep → fews l left deep + sizes l = left ∧ (heights l = 0 ∨ (heights l : Int) ≤ deep))
 | [], left, deep, h => by rw [fews]; exact ⟨by omega, by omega, fun _ => ⟨by simp [sizes], .inl rfl⟩⟩
 | x :: r, left, deep, h => by
  have h1 := few_is x left deep
  rw [fews]
  split
  ·exact ⟨by omega, by omega, by omega⟩
  ·have h2 := fews_is r (few x left deep) deep (by omega)
   refine ⟨h2.1, by omega, fun q => ?_⟩
   have h3 := h2.2.2 q
   have h4 := h1.2.2 (by omega)
   simp only [sizes, heights]
   omega
end
theorem fews_drop {l : List Tm} {i : Nat} {y : Tm} (h : l[i]? = some y) (left deep : Int) : fews (l.drop i) left deep = if few y left deep < 0 then -1 else fews (l.drop (i + 1)) (few y left deep) deep := by
 have h' := (List.getElem?_eq_some_iff.1 h)
 rw [List.drop_eq_getElem_cons h'.1, h'.2, fews]
theorem nxtB {i : Nat} (h : i < 9000000000000000000) : IntKind.i64.wrap ((i : Int) + 1) = ((i + 1 : Nat) : Int) := by rw [IntKind.wrap_i64]; omega
abbrev TFew (n : Nat) : Spec := fun args out => ∃ (x : Tm) (left deep : Int), args = [.agg (encT x), .s (.int .i64 left), .s (.int .i64 deep)] ∧ height x < n ∧ wd x ≤ 1000000000000000000 ∧ -1000000 ≤ left ∧ left ≤ 1000000 ∧ -1000000 ≤ deep ∧ deep ≤ 1000000 ∧ out = .ret (.s (.int .i64 (few x left deep)))
theorem c_few {J : JW} (hJ : JOk J) : ∀ n, Con Tryz.prog J 18 (TFew n)
 | 0 => fun args out ⟨x, _, _, _, h, _⟩ => by omega
 | n + 1 => by
  obtain ⟨code, h1, h2, h3, h4⟩ := k18
  refine con (ok_cons (c_few hJ n) ok_nil) hJ h1 h2 h3 h4 fun args out h => ?_
  obtain ⟨x, left, deep, rfl, hn, hw, l0, l1, d0, d1, rfl⟩ := h
  refine ⟨rfl, by rw [Tryz.ntmps18]; simp, ?_⟩
  have s4 := wd_of x
  have s2 := height_of x
  rw [encT_is, few_of]
  unfold c18
  refine go ?_
  by_cases q1 : left < 1
  ·rw [if_pos (.inl q1)]; simp only [q1, decide_true]; refine go ?_; exact trivial
  by_cases q2 : deep < 1
  ·rw [if_pos (.inr q2)]; simp only [q1, decide_false]; refine go ?_; simp only [q2, decide_true]; refine go ?_; exact trivial
  rw [if_neg (by omega)]
  simp only [q1, decide_false]
  refine go ?_
  simp only [q2, decide_false]
  refine go ?_
  rw [wr (by omega) (by omega)]
  refine countI x.f3.length (fun i acc => 0 ≤ acc ∧ acc ≤ 1000000 ∧ fews (x.f3.drop i) acc (deep - 1) = fews x.f3 (left - 1) (deep - 1)) (fun i acc => fewS x deep acc i) (left - 1) ⟨by omega, by omega, rfl⟩ (lm [(0, 0)]) fun i acc hi hI => ?_
  obtain ⟨a0, a1, a2⟩ := hI
  unfold fewS
  refine go ?_
  by_cases q : (i : Int) < (encTs x.f3).length
  ·simp only [q, decide_true]
   obtain ⟨y, hy, hm, hl⟩ := part q
   have s1 := height_mem hm
   have s3 := wd_mem hm
   have f := few_is y acc (deep - 1)
   rw [fews_drop hy] at a2
   simp only [eget hy]
   refine go ?_
   refine ⟨false, _, ⟨y, acc, deep - 1, by rw [encT_is, wr (by omega) (by omega)], by omega, by omega, by omega, by omega, by omega, by omega, rfl⟩, ?_⟩
   refine go ?_
   by_cases q3 : few y acc (deep - 1) < 0
   ·simp only [q3, decide_true]
    rw [if_pos q3] at a2
    refine go ?_
    rw [a2]
   ·simp only [q3, decide_false]
    rw [if_neg q3] at a2
    refine go ?_
    rw [nxtB (by omega)]
    exact ⟨hl, few y acc (deep - 1), ⟨by omega, by omega, a2⟩, lm [(0, 0)]⟩
  ·simp only [q, decide_false]
   have := fin_at hi q
   subst this
   rw [List.drop_length, fews] at a2
   refine go ?_
   rw [a2]
abbrev TSmall : Spec := fun args out => ∃ (x : Tm) (most : Int), args = [.agg (encT x), .s (.int .i64 most)] ∧ wd x ≤ 1000000000000000000 ∧ 0 ≤ most ∧ most ≤ 1000000 ∧ out = .ret (.s (.bool (decide (0 ≤ few x most 600))))
theorem small_ge {x : Tm} {most : Int} (h : 0 ≤ few x most 600) : (size x : Int) ≤ most ∧ height x ≤ 600 := by
 have := few_is x most 600
 omega
theorem c_small {J : JW} (hJ : JOk J) : Con Tryz.prog J 9 TSmall := by
 obtain ⟨code, h1, h2, h3, h4⟩ := k9
 intro args out ho
 obtain ⟨x, most, rfl, hw, m0, m1, rfl⟩ := ho
 refine con (T := fun args out => args = [.agg (encT x), .s (.int .i64 most)] ∧ out = .ret (.s (.bool (decide (0 ≤ few x most 600))))) (ok_cons (c_few hJ (height x + 1)) ok_nil) hJ h1 h2 h3 h4 (fun args out h => ?_) rfl (by kernel_rfl) _ _ ⟨rfl, rfl⟩
 obtain ⟨rfl, rfl⟩ := h
 refine ⟨rfl, by rw [Tryz.ntmps9]; simp, ?_⟩
 rw [encT_is]
 unfold c9
 refine go ?_
 refine ⟨false, _, ⟨x, most, 600, by rw [encT_is], by omega, hw, by omega, m1, by omega, by omega, rfl⟩, ?_⟩
 refine go ?_
 simp
theorem same_of (x y : Tm) : same x y = (decide (x.f0 = y.f0) && decide (x.f2.data.toList = y.f2.data.toList) && decide (x.f1 = y.f1) && HCore.sames x.f3 y.f3) := by cases x; cases y; rw [same]
theorem sames_len : ∀ {l l' : List Tm}, l.length ≠ l'.length → HCore.sames l l' = false
 | [], [], h => absurd rfl h
 | [], _ :: _, _ => rfl
 | _ :: _, [], _ => rfl
 | x :: l, y :: l', h => by rw [HCore.sames, sames_len (l := l) (l' := l') (by simpa using h), Bool.and_false]
theorem sames_drop {l l' : List Tm} {i : Nat} {x y : Tm} (hx : l[i]? = some x) (hy : l'[i]? = some y) : HCore.sames (l.drop i) (l'.drop i) = (same x y && HCore.sames (l.drop (i + 1)) (l'.drop (i + 1))) := by
 have h1 := (List.getElem?_eq_some_iff.1 hx)
 have h2 := (List.getElem?_eq_some_iff.1 hy)
 rw [List.drop_eq_getElem_cons h1.1, List.drop_eq_getElem_cons h2.1, h1.2, h2.2, HCore.sames]
theorem ba_eq {s u : ByteArray} : decide (s = u) = decide (s.data.toList = u.data.toList) := by
 by_cases h : s = u
 ·subst h; simp
 ·rw [decide_eq_false h, decide_eq_false]
  intro e
  apply h
  cases s; cases u; simp only [ByteArray.mk.injEq]; exact Array.toList_inj.1 e
def sameS (x y : Tm) (i : Nat) : AS := ⟨tm [(5, .s (.int .i64 i)), (2, .ptr 0 0), (3, .ptr 1 0)], bm [(0, some (cX x)), (1, some (cX y))], bm [], 2⟩
abbrev TSame (n : Nat) : Spec := fun args out => ∃ x y : Tm, args = [.agg (encT x), .agg (encT y)] ∧ height x < n ∧ size x ≤ 1000000000 ∧ out = .ret (.s (.bool (same x y)))
theorem c_same {J : JW} (hJ : JOk J) : ∀ n, Con Tryz.prog J 16 (TSame n)
 | 0 => fun args out ⟨x, _, _, h, _⟩ => by omega
 | n + 1 => by
  obtain ⟨code, h1, h2, h3, h4⟩ := k16
  refine con (ok_cons (c_same hJ n) ok_nil) hJ h1 h2 h3 h4 fun args out h => ?_
  obtain ⟨x, y, rfl, hn, hw, rfl⟩ := h
  refine ⟨rfl, by rw [Tryz.ntmps16]; simp, ?_⟩
  have s4 := size_of x
  have s2 := height_of x
  have s5 := len_sizes x.f3
  rw [encT_is, encT_is, same_of]
  unfold c16
  refine go ?_
  by_cases q1 : x.f0 = y.f0
  rotate_left
  ·simp only [bne_iff_ne, ne_eq, q1, not_false_eq_true, show (x.f0 != y.f0) = true by simpa using q1]; refine go ?_; simp
  simp only [show (x.f0 != y.f0) = false by simpa using q1]
  refine go ?_
  by_cases q2 : x.f2 = y.f2
  rotate_left
  ·simp only [decide_eq_false q2]; refine go ?_; rw [← ba_eq, decide_eq_false q2]; simp
  simp only [decide_eq_true q2]
  refine go ?_
  by_cases q3 : x.f1 = y.f1
  rotate_left
  ·simp only [show (x.f1 != y.f1) = true by simpa using q3]; refine go ?_; simp [q3]
  simp only [show (x.f1 != y.f1) = false by simpa using q3]
  refine go ?_
  simp only [encTs_len]
  by_cases q4 : x.f3.length = y.f3.length
  rotate_left
  ·simp only [show ((x.f3.length : Int) != (y.f3.length : Int)) = true by simp; omega]; refine go ?_; rw [sames_len q4]; simp
  simp only [show ((x.f3.length : Int) != (y.f3.length : Int)) = false by simp; omega]
  refine go ?_
  rw [← ba_eq, decide_eq_true q1, decide_eq_true q2, decide_eq_true q3, Bool.and_self, Bool.and_self, Bool.true_and]
  refine countI x.f3.length (fun i (_ : Unit) => HCore.sames (x.f3.drop i) (y.f3.drop i) = HCore.sames x.f3 y.f3) (fun i _ => sameS x y i) () rfl (lm [(0, 0), (1, 1)]) fun i _ hi hI => ?_
  unfold sameS
  refine go ?_
  by_cases q : (i : Int) < (encTs x.f3).length
  ·simp only [q, decide_true]
   obtain ⟨u, hu, hm, hl⟩ := part q
   obtain ⟨v, hv, _, _⟩ := part (l := y.f3) (i := i) (by rw [encTs_len] at q ⊢; omega)
   have s1 := height_mem hm
   have s3 := sizes_mem hm
   rw [sames_drop hu hv] at hI
   simp only [eget hu, eget hv]
   refine go ?_
   refine ⟨false, _, ⟨u, v, by rw [encT_is, encT_is], by omega, by omega, rfl⟩, ?_⟩
   refine go ?_
   cases q5 : same u v with
   | false =>
    rw [q5] at hI
    refine go ?_
    rw [← hI]; rfl
   | true =>
    rw [q5, Bool.true_and] at hI
    refine go ?_
    rw [nxt (by omega)]
    exact ⟨hl, (), hI, lm [(0, 0), (1, 1)]⟩
  ·simp only [q, decide_false]
   have := fin_at hi q
   subst this
   rw [List.drop_length, List.drop_eq_nil_of_le (by omega)] at hI
   refine go ?_
   rw [← hI]; rfl
end Go.Proofs.YtnjmilelifmfpaaGreatDoor.Ev

/- Plain Lean: what the tokenizer obeys. No program in sight. -/
namespace Go.Proofs.YtnjmilelifmfpaaGreatDoor.HLex

theorem tw_len (q : UInt8 → Bool) (l : List UInt8) : (l.takeWhile q).length ≤ l.length := (List.takeWhile_prefix q).length_le
theorem dw_len (q : UInt8 → Bool) (l : List UInt8) : (l.dropWhile q).length ≤ l.length := (List.dropWhile_suffix q).length_le
theorem tw_eq_take (q : UInt8 → Bool) (l : List UInt8) : l.take (l.takeWhile q).length = l.takeWhile q := by
 induction l with
 | nil => rfl
 | cons c r ih => by_cases h : q c <;> simp [List.takeWhile, h, ih]
theorem tw_all (q : UInt8 → Bool) (l : List UInt8) : ∀ c ∈ l.takeWhile q, q c = true := by
 induction l with
 | nil => simp
 | cons c r ih => by_cases h : q c <;> simp [List.takeWhile, h]; exact ih
theorem dw_self {q : UInt8 → Bool} {c : UInt8} {r : List UInt8} (h : q c = false) : (c :: r).dropWhile q = c :: r := by simp [List.dropWhile, h]

inductive FirstIs (r : List UInt8) : Nat → List UInt8 → Nat → Prop
 | word {k n : Nat} : r.takeWhile wordly ≠ [] → named (r.takeWhile wordly) = .ok (k, n) → FirstIs r k (r.takeWhile wordly) n
 | sign {s : List UInt8} : r.takeWhile wordly = [] → signs.find? (fun s => s.isPrefixOf r) = some s → FirstIs r 5 s 0
theorem first_is {r t : List UInt8} {k n : Nat} (h : first r = .ok (k, t, n)) : FirstIs r k t n := by
 unfold first at h
 by_cases hw : r.takeWhile wordly = []
 ·simp only [hw, if_true] at h
  split at h
  ·rename_i s hs; cases h; exact .sign hw hs
  ·cases h
 ·simp only [hw, if_false] at h
  split at h
  ·rename_i k' n' hn; cases h; exact .word hw hn
  ·cases h
theorem first_word {r : List UInt8} {k n : Nat} (hw : r.takeWhile wordly ≠ []) (hn : named (r.takeWhile wordly) = .ok (k, n)) : first r = .ok (k, r.takeWhile wordly, n) := by
 unfold first; simp only [hw, if_false, hn]
theorem first_sign {r s : List UInt8} (hw : r.takeWhile wordly = []) (hs : signs.find? (fun s => s.isPrefixOf r) = some s) : first r = .ok (5, s, 0) := by
 unfold first; simp only [hw, if_true, hs]
theorem sign_facts : ∀ s ∈ signs, s ≠ [] ∧ s.length ≤ 2 ∧ first s = .ok (5, s, 0) ∧ (∀ c ∈ s, blank c = false) := by
 intro s hs
 simp only [signs, List.mem_cons, List.mem_nil_iff, or_false] at hs
 rcases hs with rfl|rfl|rfl|rfl|rfl|rfl|rfl|rfl|rfl|rfl|rfl|rfl|rfl|rfl|rfl <;> exact ⟨by decide, by decide, rfl, by decide⟩
theorem first_pre {r t : List UInt8} {k n : Nat} (h : first r = .ok (k, t, n)) : t <+: r ∧ t ≠ [] := by
 cases first_is h with
 | word h1 h2 => exact ⟨List.takeWhile_prefix _, h1⟩
 | sign h1 h2 =>
  have := List.find?_some h2
  exact ⟨List.isPrefixOf_iff_prefix.1 this, (sign_facts _ (List.mem_of_find?_eq_some h2)).1⟩

theorem blank_not {c : UInt8} (h : blank c = true) : wordly c = false ∧ ∀ s ∈ signs, c ∉ s := by
 have h' : c = 32 ∨ c = 10 ∨ c = 9 := by simpa [blank, or_assoc] using h
 rcases h' with rfl|rfl|rfl <;> decide
theorem fuel : ∀ (f g pos : Nat) (l : List UInt8), l.length < f → l.length < g → lexFrom f pos l = lexFrom g pos l
 | 0, _, _, _, h, _ => by omega
 | _, 0, _, _, _, h => by omega
 | f + 1, g + 1, pos, l, hf, hg => by
  unfold lexFrom
  have hr := dw_len blank l
  by_cases h0 : l.dropWhile blank = []
  ·simp [h0]
  ·simp only [h0, if_false]
   cases h1 : first (l.dropWhile blank) with
   | error e => rfl
   | ok x =>
    obtain ⟨k, t, n⟩ := x
    have ht := first_pre h1
    have : 0 < t.length := List.length_pos_iff.2 ht.2
    have hl : 0 < (l.dropWhile blank).length := List.length_pos_iff.2 h0
    simp only []
    rw [fuel f g _ _ (by simp; omega) (by simp; omega)]
def lexs (pos : Nat) (l : List UInt8) : Except (Nat × Nat) (List Tok) := lexFrom (l.length + 1) pos l
theorem lex_lexs (l : List UInt8) : lex l = lexs 0 l := rfl
theorem lexs_nil (pos : Nat) {l : List UInt8} (h : l.dropWhile blank = []) : lexs pos l = .ok [] := by
 unfold lexs lexFrom; simp [h]
theorem lexs_err (pos : Nat) {l : List UInt8} {e : Nat} (h : l.dropWhile blank ≠ []) (h1 : first (l.dropWhile blank) = .error e) :
  lexs pos l = .error (pos + (l.length - (l.dropWhile blank).length), e) := by
 unfold lexs lexFrom; simp [h, h1]
def more (t : Tok) : Except (Nat × Nat) (List Tok) → Except (Nat × Nat) (List Tok)
 | .ok ts => .ok (t :: ts)
 | .error e => .error e
theorem lexs_tok (pos : Nat) {l t : List UInt8} {k n : Nat} (h : l.dropWhile blank ≠ []) (h1 : first (l.dropWhile blank) = .ok (k, t, n)) :
  lexs pos l = more ⟨k, t, n, pos + (l.length - (l.dropWhile blank).length)⟩ (lexs (pos + (l.length - (l.dropWhile blank).length) + t.length) ((l.dropWhile blank).drop t.length)) := by
 have ht := first_pre h1
 have h3 : 0 < t.length := List.length_pos_iff.2 ht.2
 have h4 : 0 < (l.dropWhile blank).length := List.length_pos_iff.2 h
 have h5 := dw_len blank l
 conv => lhs; unfold lexs lexFrom
 simp only [h, if_false, h1]
 rw [show lexFrom l.length = lexFrom l.length from rfl, fuel l.length (((l.dropWhile blank).drop t.length).length + 1) _ _ (by simp; omega) (by omega)]
 unfold lexs more
 cases lexFrom (((l.dropWhile blank).drop t.length).length + 1) (pos + (l.length - (l.dropWhile blank).length) + t.length) ((l.dropWhile blank).drop t.length) <;> rfl

def both (a b : Except (Nat × Nat) (List Tok)) : Except (Nat × Nat) (List Tok) :=
 match a with
 | .error e => .error e
 | .ok ts => match b with
  | .error e => .error e
  | .ok us => .ok (ts ++ us)
def Stands (s : List UInt8) : Nat → List Tok → Prop
 | at_, [] => at_ ≤ s.length ∧ ∀ i, at_ ≤ i → (h : i < s.length) → blank s[i] = true
 | at_, t :: ts => at_ ≤ t.pos ∧ t.pos + t.text.length ≤ s.length ∧ t.text ≠ [] ∧ (∀ i, at_ ≤ i → i < t.pos → (h : i < s.length) → blank s[i] = true) ∧
   (s.drop t.pos).take t.text.length = t.text ∧ Stands s (t.pos + t.text.length) ts
end Go.Proofs.YtnjmilelifmfpaaGreatDoor.HLex

namespace Go.Proofs.YtnjmilelifmfpaaGreatDoor.Q
open Go.RowKit Go.Proofs.YtnjmilelifmfpaaGreatDoorW.PrintWords Go.Proofs.YtnjmilelifmfpaaGreatDoorW.PrintLast Go.Proofs.YtnjmilelifmfpaaGreatDoorW.PrintMore
attribute [local go_sem] max2_int min2_int max_two min_two max_three min_three max_four min_four
set_option linter.unusedVariables false
set_option linter.unusedSimpArgs false

mutual
def core_Size.l0 : Nat → Int → List (S24) → Int → Int → Option (Int)
 | 0, _, _, _, _ => none
 | k + 1, x3, x7, x8, x9 => if x9 < x8 then (if 0 ≤ x9 then (if x9 < (x7.length : Int) then ((core_Size.f k ((rd_T24 x7 x9).f0) ((rd_T24 x7 x9).f1) ((rd_T24 x7 x9).f2) ((rd_T24 x7 x9).f3)).bind fun t160 => (core_Size.l0 k (wrap64 (x3 + t160)) x7 x8 (wrap64 (x9 + 1)))) else (none)) else (none)) else (some x3)
def core_Size.f : Nat → Int → Int → ByteArray → List (S24) → Option (Int)
 | 0, _, _, _, _ => none
 | k + 1, a0_0, a0_1, a0_2, l0_3 => core_Size.l0 k 1 l0_3 (l0_3.length : Int) 0
end
theorem core_Size.mono_l : ∀ k, (∀ y0 y1 y2 y3, LeO (core_Size.f k y0 y1 y2 y3) (core_Size.f (k + 1) y0 y1 y2 y3)) ∧ (∀ y0 y1 y2 y3, LeO (core_Size.l0 k y0 y1 y2 y3) (core_Size.l0 (k + 1) y0 y1 y2 y3))
 | 0 => ⟨fun _ _ _ _ r h => by simp [core_Size.f] at h, fun _ _ _ _ r h => by simp [core_Size.l0] at h⟩
 | k + 1 => by
  obtain ⟨ih0, ih1⟩ := core_Size.mono_l k
  refine ⟨?_, ?_⟩
  ·intro y0 y1 y2 y3
   unfold core_Size.f
   repeat' first
   | (with_reducible exact ih0 _ _ _ _)
   | (with_reducible exact ih1 _ _ _ _)
   | (with_reducible exact LeO.refl _)
   | (with_reducible exact LeO.none _)
   | (with_reducible refine LeO.ite ?_ ?_)
   | (with_reducible refine LeO.bind ?_ (fun _ => ?_))
   | exact ih0 _ _ _ _
   | exact ih1 _ _ _ _
   | exact LeO.none _
   | refine LeO.ite ?_ ?_
   | refine LeO.bind ?_ (fun _ => ?_)
  ·intro y0 y1 y2 y3
   unfold core_Size.l0
   repeat' first
   | (with_reducible exact ih0 _ _ _ _)
   | (with_reducible exact ih1 _ _ _ _)
   | (with_reducible exact LeO.refl _)
   | (with_reducible exact LeO.none _)
   | (with_reducible refine LeO.ite ?_ ?_)
   | (with_reducible refine LeO.bind ?_ (fun _ => ?_))
   | exact ih0 _ _ _ _
   | exact ih1 _ _ _ _
   | exact LeO.none _
   | refine LeO.ite ?_ ?_
   | refine LeO.bind ?_ (fun _ => ?_)
theorem core_Size.mono : ∀ a0 a1 a2 a3 k, LeO (core_Size.f k a0 a1 a2 a3) (core_Size.f (k + 1) a0 a1 a2 a3) := by
 intro a0 a1 a2 a3 k
 obtain ⟨ih0, ih1⟩ := core_Size.mono_l k
 exact ih0 a0 a1 a2 a3
set_option maxHeartbeats 8000000 in
set_option maxRecDepth 100000 in
theorem core_Size.calls (k : Nat) : ∀ (a0_0 : Int) (a0_1 : Int) (a0_2 : ByteArray) (A0_3 : Option Addr) (c0_3 : Nat) (l0_3 : List (S24)) (r : Int) (w : World) (hr0_3 : Kd.C k24 w A0_3 l0_3.length l0_3) (hc0_3 : l0_3.length ≤ c0_3) (h : core_Size.f k a0_0 a0_1 a0_2 l0_3 = some r),
  Calls Tryz.prog 24 #[.agg #[.int .i64 a0_0, .int .i64 a0_1, .string a0_2, .slice A0_3 l0_3.length c0_3]] w fun e w' => e = .returned (.int .i64 r) ∧ Below w.heap.size w w' := by
 induction k using Nat.strongRecOn with
 | _ k ih =>
 intro a0_0 a0_1 a0_2 A0_3 c0_3 l0_3 r w hr0_3 hc0_3 h
 cases k with
 | zero => exact absurd h (by simp [core_Size.f])
 | succ k =>
 simp only [core_Size.f] at h
 have hu24 := Tryz.underlying24
 have HR0_3 := Aside0.mk hr0_3
 have HC0_3 := Aside0.mk hc0_3
 clear hr0_3 hc0_3
 have HB := Aside0.mk (Below.refl w.heap.size w)
 have H : (core_Size.l0 k 1 l0_3 (l0_3.length : Int) 0) = some r := h
 clear h
 have H' := Aside0.mk H
 clear H
 go_enter Tryz.func24, Tryz.ntmps24
 go_wp2_with (first|((with_reducible refine gate_dst (N := 1) rfl ?_); refine box_event ?hg (N := 1) ?hd (cs := #[.int .i64 a0_0, .int .i64 a0_1, .string a0_2, .slice A0_3 l0_3.length c0_3]) (t := 24) ?hr ?_; (case hd => rfl); (case hg => rfl); (case hr => first|(go_simp; done)|(go_simp; rfl)); intro gb157 hg w2 hbox hb; have n0_ := Aside0.mk (below_step (by repeat (first|(with_reducible first|exact HB.out|apply below_alloc|apply pw_below_drewN|apply below_drew1)|exact HB.out)) hb); have n1_ := Aside0.mk (hbox); have n2_ := Aside0.mk ((by rw [hg]; exact (below_size (by repeat (first|(with_reducible first|exact HB.out|apply below_alloc|apply pw_below_drewN|apply below_drew1)|exact HB.out))) : w.heap.size ≤ gb157)); have n3_ := Aside0.mk ((by rw [hg]; exact (below_size (by repeat (first|(with_reducible first|exact HB.out|apply below_alloc|apply pw_below_drewN|apply below_drew1)|exact HB.out))) : w.heap.size ≤ gb157)); clear HB; have HB := n0_; have BK157 := n1_; have GW157 := n2_; have GE157 := n3_; clear n0_ n1_ n2_ n3_; clear hb hbox hg; have hcz3_0 : w2.cell? ⟨gb157, 0, none⟩ = some (.int .i64 a0_0) := (blk_cell BK157.out 0).trans rfl; have hcz3_1 : w2.cell? ⟨gb157, 1, none⟩ = some (.int .i64 a0_1) := (blk_cell BK157.out 1).trans rfl; have hcz3_2 : w2.cell? ⟨gb157, 2, none⟩ = some (.string a0_2) := (blk_cell BK157.out 2).trans rfl; have hcz3_3 : w2.cell? ⟨gb157, 3, none⟩ = some (.slice A0_3 l0_3.length c0_3) := (blk_cell BK157.out 3).trans rfl; have hfz3_0 := blk_frozen BK157.out 0; have hfz3_1 := blk_frozen BK157.out 1; have hfz3_2 := blk_frozen BK157.out 2; have hfz3_3 := blk_frozen BK157.out 3))
 go_loopg [3, 9] k (fun kq v3 v9 w' => ∃ (x3_1 : Int) (x9_1 : Int), v3 = .int .i64 x3_1 ∧ v9 = .int .i64 x9_1 ∧ Aside0 (core_Size.l0 kq x3_1 l0_3 (l0_3.length : Int) x9_1 = some r) ∧ Aside0 (kq ≤ k) ∧ Aside0 (w'.heap[gb157]? = some (.cells #[.int .i64 a0_0, .int .i64 a0_1, .string a0_2, (.slice A0_3 l0_3.length c0_3)] 24 (0, 0))) ∧ Aside0 (Below w.heap.size w w'))
 case atStart => exact ⟨(1), (0), (by first|rfl|(simp; done)|(simp [*]; done)), (by first|rfl|(simp; done)|(simp [*]; done)), H', ⟨Nat.le_refl _⟩, ⟨by (with_reducible repeat (first|refine blk_drewN ?_ _|refine blk_drew ?_|refine blk_alloc ?_ _)); exact BK157.out⟩, ⟨by repeat (first|(with_reducible first|exact HB.out|apply below_alloc|apply pw_below_drewN|apply below_drew1|refine below_set ?_ GE157.out)|exact HB.out)⟩⟩
 case round =>
  clear H'
  try clear c2
  try clear p2
  try clear hcz3_0
  try clear hcz3_1
  try clear hcz3_2
  try clear hcz3_3
  try clear hfz3_0
  try clear hfz3_1
  try clear hfz3_2
  try clear hfz3_3
  obtain ⟨x3_1, x9_1, rfl, rfl, HA, HK1, BK157, HB⟩ := hrel
  cases gk with
  | zero => exact absurd HA.out (by simp [core_Size.l0])
  | succ k1 =>
   have H := HA.out
   clear HA
   simp only [core_Size.l0] at H
   by_cases c4 : x9_1 < (l0_3.length : Int)
   ·rw [if_pos c4] at H
    have c4b0 : decide (x9_1 < (l0_3.length : Int)) = true := decide_eq_true c4
    clear c4
    by_cases c5 : 0 ≤ x9_1
    ·rw [if_pos c5] at H
     have c5b0 : decide (0 ≤ x9_1) = true := decide_eq_true c5
     clear c5
     by_cases c6 : x9_1 < (l0_3.length : Int)
     ·rw [if_pos c6] at H
      have c6b0 : decide (x9_1 < (l0_3.length : Int)) = true := decide_eq_true c6
      clear c6
      replace H := Option.bind_eq_some_iff.mp H
      obtain ⟨t160, A70, H⟩ := H
      replace H : (core_Size.l0 k1 (wrap64 (x3_1 + t160)) l0_3 (l0_3.length : Int) (wrap64 (x9_1 + 1))) = some r := H
      have A7 := Aside0.mk A70
      clear A70
      have H' := Aside0.mk H
      clear H
      have p158 : 0 ≤ (x9_1 : Int) := of_decide_eq_true (by first|(with_reducible assumption) | assumption)
      have q158 : x9_1 < (l0_3.length : Int) := of_decide_eq_true (by first|(with_reducible assumption) | assumption)
      obtain ⟨ad158, A158_3, c158_3, e158, hx158_0, hx158_1, hx158_2, hx158_3, hl158_3, hi158_3⟩ := at_T24 HR0_3.out x9_1 p158 q158
      cases e158
      replace hx158_0 := (HB.out.cell (World.block_lt_of_cell? w _ hx158_0)).trans hx158_0
      replace hx158_1 := (HB.out.cell (World.block_lt_of_cell? w _ hx158_1)).trans hx158_1
      replace hx158_2 := (HB.out.cell (World.block_lt_of_cell? w _ hx158_2)).trans hx158_2
      replace hx158_3 := (HB.out.cell (World.block_lt_of_cell? w _ hx158_3)).trans hx158_3
      have HR158_3 := Aside0.mk hi158_3
      have HC158_3 := Aside0.mk hl158_3
      clear hi158_3 hl158_3
      replace p158 := eq_true p158
      replace q158 := eq_true q158
      go_wp2_with (first|((with_reducible refine gate_dst (N := 5) rfl ?_); refine box_event ?hg (N := 5) ?hd (cs := #[.int .i64 0, .int .i64 0, .string (⟨#[]⟩ : ByteArray), .slice none 0 0]) (t := 24) ?hr ?_; (case hd => rfl); (case hg => rfl); (case hr => first|(go_simp; done)|(go_simp; rfl)); intro gb159 hg w8 hbox hb; have n0_ := Aside0.mk (blk_below (g := gb157) (o := .cells #[.int .i64 a0_0, .int .i64 a0_1, .string a0_2, .slice (some ad158) l0_3.length c0_3] 24 (0, 0)) (by (with_reducible repeat (first|refine blk_drewN ?_ _|refine blk_drew ?_|refine blk_alloc ?_ _)); exact BK157.out) hb); have n1_ := Aside0.mk (below_step (by repeat (first|(with_reducible first|exact HB.out|apply below_alloc|apply pw_below_drewN|apply below_drew1|refine below_set ?_ GE157.out)|exact HB.out)) hb); have n2_ := Aside0.mk (hbox); have n3_ := Aside0.mk ((by rw [hg]; exact (below_size (by repeat (first|(with_reducible first|exact HB.out|apply below_alloc|apply pw_below_drewN|apply below_drew1|refine below_set ?_ GE157.out)|exact HB.out))) : w.heap.size ≤ gb159)); have n4_ := Aside0.mk ((by rw [hg]; exact (below_size (by repeat (first|(with_reducible first|exact HB.out|apply below_alloc|apply pw_below_drewN|apply below_drew1|refine below_set ?_ GE157.out)|exact HB.out))) : w.heap.size ≤ gb159)); have n5_ := Aside0.mk ((by rw [hg]; exact Nat.ne_of_lt (blk_lt (g := gb157) (o := .cells #[.int .i64 a0_0, .int .i64 a0_1, .string a0_2, .slice (some ad158) l0_3.length c0_3] 24 (0, 0)) (by (with_reducible repeat (first|refine blk_drewN ?_ _|refine blk_drew ?_|refine blk_alloc ?_ _)); exact BK157.out)) : gb157 ≠ gb159)); have n6_ := Aside0.mk ((by rw [hg]; exact Nat.ne_of_gt (blk_lt (g := gb157) (o := .cells #[.int .i64 a0_0, .int .i64 a0_1, .string a0_2, .slice (some ad158) l0_3.length c0_3] 24 (0, 0)) (by (with_reducible repeat (first|refine blk_drewN ?_ _|refine blk_drew ?_|refine blk_alloc ?_ _)); exact BK157.out)) : gb159 ≠ gb157)); clear BK157; clear HB; have BK157 := n0_; have HB := n1_; have BK159 := n2_; have GW159 := n3_; have GE159 := n4_; have NB157_159 := n5_; have NB159_157 := n6_; clear n0_ n1_ n2_ n3_ n4_ n5_ n6_; clear hb hbox hg; have hnb9 := NB159_157.out; have hnc9 := NB157_159.out; have hcz10_0 : w8.cell? ⟨gb159, 0, none⟩ = some (.int .i64 0) := (blk_cell BK159.out 0).trans rfl; have hcz10_1 : w8.cell? ⟨gb159, 1, none⟩ = some (.int .i64 0) := (blk_cell BK159.out 1).trans rfl; have hcz10_2 : w8.cell? ⟨gb159, 2, none⟩ = some (.string (⟨#[]⟩ : ByteArray)) := (blk_cell BK159.out 2).trans rfl; have hcz10_3 : w8.cell? ⟨gb159, 3, none⟩ = some (.slice none 0 0) := (blk_cell BK159.out 3).trans rfl; have hfz10_0 := blk_frozen BK159.out 0; have hfz10_1 := blk_frozen BK159.out 1; have hfz10_2 := blk_frozen BK159.out 2; have hfz10_3 := blk_frozen BK159.out 3) | ((with_reducible refine gate_callee (f := 24) rfl ?_); refine goesL_ (some 15) rfl rfl Tryz.func24 (by kernel_rfl) rfl #[.agg #[.int .i64 ((rd_T24 l0_3 x9_1).f0), .int .i64 ((rd_T24 l0_3 x9_1).f1), .string ((rd_T24 l0_3 x9_1).f2), .slice A158_3 ((rd_T24 l0_3 x9_1).f3).length c158_3]] rfl (by (try simp only [List.map_toArray, List.map_cons, List.map_nil]); first|done|rfl|(simp only [List.length_drop, List.length_take]; rfl)) ?_; (with_reducible refine (ih k1 (by have := HK1.out; omega) ((rd_T24 l0_3 x9_1).f0) ((rd_T24 l0_3 x9_1).f1) ((rd_T24 l0_3 x9_1).f2) _ _ ((rd_T24 l0_3 x9_1).f3) t160 _ ?side1 ?side2 A7.out).mono ?_); (case side1 => exact Kd.C_below HR158_3.out (by repeat (first|(with_reducible first|exact HB.out|apply below_alloc|apply pw_below_drewN|apply below_drew1|refine below_set ?_ GE157.out|refine below_set ?_ GE159.out)|exact HB.out))); (case side2 => exact HC158_3.out); rintro e w11 ⟨rfl, hb⟩; refine ⟨_, rfl, ?_⟩; have n0_ := Aside0.mk (blk_below (g := gb157) (o := .cells #[.int .i64 a0_0, .int .i64 a0_1, .string a0_2, .slice (some ad158) l0_3.length c0_3] 24 (0, 0)) (by (with_reducible repeat (first|refine blk_drewN ?_ _|refine blk_drew ?_|refine blk_alloc ?_ _)); refine blk_far ?_ NB157_159.out _; (with_reducible repeat (first|refine blk_drewN ?_ _|refine blk_drew ?_|refine blk_alloc ?_ _)); refine blk_far ?_ NB157_159.out _; (with_reducible repeat (first|refine blk_drewN ?_ _|refine blk_drew ?_|refine blk_alloc ?_ _)); refine blk_far ?_ NB157_159.out _; (with_reducible repeat (first|refine blk_drewN ?_ _|refine blk_drew ?_|refine blk_alloc ?_ _)); refine blk_far ?_ NB157_159.out _; (with_reducible repeat (first|refine blk_drewN ?_ _|refine blk_drew ?_|refine blk_alloc ?_ _)); exact BK157.out) hb); have n1_ := Aside0.mk (blk_below (g := gb159) (o := .cells #[.int .i64 ((rd_T24 l0_3 x9_1).f0), .int .i64 ((rd_T24 l0_3 x9_1).f1), .string ((rd_T24 l0_3 x9_1).f2), .slice A158_3 ((rd_T24 l0_3 x9_1).f3).length c158_3] 24 (0, 0)) (by (with_reducible repeat (first|refine blk_drewN ?_ _|refine blk_drew ?_|refine blk_alloc ?_ _)); refine blk_put (cs := #[.int .i64 ((rd_T24 l0_3 x9_1).f0), .int .i64 ((rd_T24 l0_3 x9_1).f1), .string ((rd_T24 l0_3 x9_1).f2), .slice none 0 0]) ?_ 3 _ rfl; (with_reducible repeat (first|refine blk_drewN ?_ _|refine blk_drew ?_|refine blk_alloc ?_ _)); refine blk_put (cs := #[.int .i64 ((rd_T24 l0_3 x9_1).f0), .int .i64 ((rd_T24 l0_3 x9_1).f1), .string (⟨#[]⟩ : ByteArray), .slice none 0 0]) ?_ 2 _ rfl; (with_reducible repeat (first|refine blk_drewN ?_ _|refine blk_drew ?_|refine blk_alloc ?_ _)); refine blk_put (cs := #[.int .i64 ((rd_T24 l0_3 x9_1).f0), .int .i64 0, .string (⟨#[]⟩ : ByteArray), .slice none 0 0]) ?_ 1 _ rfl; (with_reducible repeat (first|refine blk_drewN ?_ _|refine blk_drew ?_|refine blk_alloc ?_ _)); refine blk_put (cs := #[.int .i64 0, .int .i64 0, .string (⟨#[]⟩ : ByteArray), .slice none 0 0]) ?_ 0 _ rfl; (with_reducible repeat (first|refine blk_drewN ?_ _|refine blk_drew ?_|refine blk_alloc ?_ _)); exact BK159.out) hb); have n2_ := Aside0.mk (below_step (by repeat (first|(with_reducible first|exact HB.out|apply below_alloc|apply pw_below_drewN|apply below_drew1|refine below_set ?_ GE157.out|refine below_set ?_ GE159.out)|exact HB.out)) hb); clear BK157; clear BK159; clear HB; have BK157 := n0_; have BK159 := n1_; have HB := n2_; clear n0_ n1_ n2_; (try clear hb); (try clear hb2); (try clear hk); (try clear hi)))
      go_roundg k1
      case measure => have := HK1.out; omega
      case rel => exact ⟨(wrap64 (x3_1 + t160)), (wrap64 (x9_1 + 1)), (by first|rfl|(simp; done)|(simp [*]; done)), (by first|rfl|(simp; done)|(simp [*]; done)), H', ⟨by have := HK1.out; omega⟩, ⟨by (with_reducible repeat (first|refine blk_drewN ?_ _|refine blk_drew ?_|refine blk_alloc ?_ _)); exact BK157.out⟩, ⟨by repeat (first|(with_reducible first|exact HB.out|apply below_alloc|apply pw_below_drewN|apply below_drew1|refine below_set ?_ GE157.out|refine below_set ?_ GE159.out)|exact HB.out)⟩⟩
     ·rw [if_neg c6] at H
      exact absurd H (by simp)
    ·rw [if_neg c5] at H
     exact absurd H (by simp)
   ·rw [if_neg c4] at H
    have c4b0 : decide (x9_1 < (l0_3.length : Int)) = false := decide_eq_false c4
    clear c4
    obtain rfl := Option.some.inj H
    go_wp2
    go_ret
    exact ⟨by first|rfl|(simp [errW_none, errW_some] <;> rfl)|(simp [*, errW_none, errW_some] <;> rfl), by repeat (first|(with_reducible first|exact HB.out|apply below_alloc|apply pw_below_drewN|apply below_drew1|refine below_set ?_ GE157.out)|exact HB.out)⟩

end Go.Proofs.YtnjmilelifmfpaaGreatDoor.Q

namespace Go.Proofs.YtnjmilelifmfpaaGreatDoor.Pure
open Go Go.RowKit Go.Proofs.YtnjmilelifmfpaaGreatDoor.Q
open HCore
namespace CoreMono
mutual
theorem may_mono : ∀ (x : T) (a b : Int), a ≤ b → may x a = true → may x b = true
 | ⟨k, n, s, l⟩, a, b, hab, h => by
  simp only [may] at h ⊢
  split
  ·rename_i hk
   simp only [hk, if_true, Bool.and_eq_true, decide_eq_true_eq] at h ⊢
   exact ⟨h.1, by omega⟩
  ·rename_i h1
   rw [if_neg h1] at h
   split
   ·rename_i hk
    simp only [hk, if_true, Bool.and_eq_true, decide_eq_true_eq] at h ⊢
    exact ⟨h.1, by omega⟩
   ·rename_i h7
    rw [if_neg h7] at h
    split
    ·rename_i hk
     simp only [hk, if_true, Bool.and_eq_true, decide_eq_true_eq] at h ⊢
     exact ⟨h.1, by omega⟩
    ·rename_i h9
     rw [if_neg h9] at h
     split
     ·rename_i hk
      simp only [hk, if_true, Bool.and_eq_true, decide_eq_true_eq] at h ⊢
      exact ⟨⟨h.1.1, by omega⟩, each_mono l (a + 1) (b + 1) (by omega) h.2⟩
     ·rename_i h2
      rw [if_neg h2] at h
      split
      ·rename_i hk
       simp only [hk, if_true, Bool.and_eq_true, decide_eq_true_eq] at h ⊢
       exact ⟨h.1, each_mono l a b hab h.2⟩
      ·rename_i h3
       rw [if_neg h3] at h
       split
       ·rename_i hk
        simp only [hk, if_true, Bool.and_eq_true, decide_eq_true_eq] at h ⊢
        exact ⟨h.1, each_mono l a b hab h.2⟩
       ·rename_i h8
        rw [if_neg h8] at h
        split
        ·rename_i hk
         simp only [hk, if_true, Bool.and_eq_true, decide_eq_true_eq] at h ⊢
         exact ⟨⟨h.1.1, by omega⟩, each_mono l a b hab h.2⟩
        ·rename_i h4
         rw [if_neg h4] at h
         split
         ·rename_i hk
          simp only [hk, if_true, Bool.and_eq_true, decide_eq_true_eq] at h ⊢
          exact ⟨h.1, case_mono l a b hab h.2⟩
         ·rename_i h5
          rw [if_neg h5] at h; cases h
theorem each_mono : ∀ (l : List T) (a b : Int), a ≤ b → each l a = true → each l b = true
 | [], _, _, _, _ => rfl
 | x :: r, a, b, hab, h => by
  simp only [each, Bool.and_eq_true] at h ⊢
  exact ⟨may_mono x a b hab h.1, each_mono r a b hab h.2⟩
theorem case_mono : ∀ (l : List T) (a b : Int), a ≤ b → mayCase l a = true → mayCase l b = true
 | [], _, _, _, h => by simp [mayCase] at h
 | x :: r, a, b, hab, h => by
  simp only [mayCase, Bool.and_eq_true] at h ⊢
  exact ⟨⟨⟨may_mono x a b hab h.1.1.1, alts_mono r a b [] hab h.1.1.2⟩, h.1.2⟩, h.2⟩
theorem alts_mono : ∀ (l : List T) (a b : Int) (seen : List T), a ≤ b → alts l a seen = true → alts l b seen = true
 | [], _, _, _, _, _ => rfl
 | ⟨k, n, s, l⟩ :: r, a, b, seen, hab, h => by
  simp only [alts, Bool.and_eq_true] at h ⊢
  exact ⟨⟨⟨h.1.1.1, each_mono l (a + n) (b + n) (by omega) h.1.1.2⟩, h.1.2⟩, alts_mono r a b _ hab h.2⟩
end
end CoreMono
end Go.Proofs.YtnjmilelifmfpaaGreatDoor.Pure

namespace Go.Proofs.YtnjmilelifmfpaaGreatDoor.Pure
open Go Go.RowKit Go.Lib Go.Proofs
open Go.Proofs.YtnjmilelifmfpaaGreatDoor
set_option linter.unusedVariables false
set_option linter.unusedSimpArgs false
namespace R6P
open HCore
section
open HLex
theorem nb {r t : List UInt8} {k n : Nat} (h : first r = .ok (k, t, n)) (c : UInt8) (r' : List UInt8) (he : r = c :: r') : HLex.blank c = false := by
 cases hc : HLex.blank c with
 | false => rfl
 | true =>
  exfalso
  have hn := blank_not hc
  have hp := first_pre h
  cases first_is h with
  | word h1 h2 =>
   apply h1
   rw [he, List.takeWhile_cons, if_neg (by rw [hn.1]; simp)]
  | sign h1 h2 =>
   cases t with
   | nil => exact hp.2 rfl
   | cons d t' =>
    have h3 := hp.1
    rw [he, List.cons_prefix_cons] at h3
    exact hn.2 _ (List.mem_of_find?_eq_some h2) (by rw [h3.1]; exact List.mem_cons_self ..)
theorem tok_to {L : List UInt8} {k n : Nat} (h : first L = .ok (k, L, n)) : ∃ p, lex L = .ok [⟨k, L, n, p⟩] := by
 have hp := first_pre h
 have hb : L.dropWhile HLex.blank = L := by
  cases L with
  | nil => exact absurd rfl hp.2
  | cons c r => exact dw_self (nb h c r rfl)
 have h1 : first (L.dropWhile HLex.blank) = .ok (k, L, n) := by rw [hb]; exact h
 refine ⟨0 + (L.length - L.length), ?_⟩
 rw [lex_lexs, lexs_tok 0 (by rw [hb]; exact hp.2) h1, hb, List.drop_length, lexs_nil _ rfl]
 rfl
theorem tok_from {L : List UInt8} {t : Tok} (h : lex L = .ok [t]) (ht : t.text = L) : first L = .ok (t.kind, L, t.n) := by
 rw [lex_lexs] at h
 by_cases hd : L.dropWhile HLex.blank = []
 ·rw [lexs_nil _ hd] at h; cases h
 ·cases hf : first (L.dropWhile HLex.blank) with
  | error e => rw [lexs_err 0 hd hf] at h; cases h
  | ok x =>
   obtain ⟨k, tx, n⟩ := x
   rw [lexs_tok 0 hd hf] at h
   cases hr : lexs (0 + (L.length - (L.dropWhile HLex.blank).length) + tx.length) ((L.dropWhile HLex.blank).drop tx.length) with
   | error e => rw [hr] at h; cases h
   | ok us =>
    rw [hr] at h
    simp only [more, Except.ok.injEq, List.cons.injEq] at h
    obtain ⟨h1, _⟩ := h
    rw [← h1] at ht ⊢
    simp only at ht ⊢
    have hp := first_pre hf
    rw [ht] at hf hp
    have hl := hp.1.length_le
    have hs : L.dropWhile HLex.blank <:+ L := List.dropWhile_suffix _
    have he : L.dropWhile HLex.blank = L := hs.eq_of_length (by have := hs.length_le; omega)
    rw [he] at hf
    exact hf
theorem con_first (s : ByteArray) : con s = (match first s.data.toList with | .ok (k', t, _) => decide (k' = 2) && decide (t = s.data.toList) | .error _ => false) := by
 unfold con
 cases hf : first s.data.toList with
 | error e =>
  cases hl : lex s.data.toList with
  | error x => rfl
  | ok ts =>
   match ts, hl with
   | [], _ => rfl
   | [t], hl =>
    by_cases ht : t.text = s.data.toList
    ·rw [tok_from hl ht] at hf; cases hf
    ·simp [ht]
   | t :: u :: r, _ => rfl
 | ok x =>
  obtain ⟨k', t, n⟩ := x
  by_cases ht : t = s.data.toList
  ·subst ht
   obtain ⟨p, hp⟩ := tok_to hf
   rw [hp]
  ·have hno : ∀ u, lex s.data.toList = .ok [u] → u.text ≠ s.data.toList := by
    intro u hu hx
    rw [tok_from hu hx] at hf
    simp only [Except.ok.injEq, Prod.mk.injEq] at hf
    exact ht hf.2.1.symm
   cases hl : lex s.data.toList with
   | error x => simp [ht]
   | ok ts =>
    match ts, hl with
    | [], _ => simp [ht]
    | [u], hl => simp [ht, hno u hl]
    | t :: u :: r, _ => simp [ht]
end
def hd1 (x : T) (free : Int) : Bool :=
 if x.f0 = 1 then decide (x.f2.data.toList = []) && decide (x.f3.length = 0) && decide (0 ≤ x.f1) && decide (x.f1 < free)
 else if x.f0 = 2 then bare x.f1 x.f2 && decide (x.f3.length = 1)
 else if x.f0 = 3 then bare x.f1 x.f2 && decide (x.f3.length = 2)
 else if x.f0 = 4 then con x.f2 && decide (x.f1 = 0) && decide (x.f3.length ≤ 8)
 else if x.f0 = 5 then bare x.f1 x.f2 && decide (2 ≤ x.f3.length) && decide (x.f3.length ≤ 9)
 else if x.f0 = 7 then decide (x.f2.data.toList = []) && decide (x.f3.length = 0)
 else if x.f0 = 8 then oper x.f2 && decide (x.f1 = 0) && decide (x.f3.length = 2)
 else if x.f0 = 9 then bare x.f1 x.f2 && decide (x.f3.length = 0) else false
def hd6 (x : T) : Bool := decide (x.f0 = 6) && con x.f2 && decide (0 ≤ x.f1) && decide (x.f1 ≤ 8) && decide (x.f3.length = 1)
theorem may_parts : ∀ (k n : Int) (s : ByteArray) (l : List T) (free : Int), 0 ≤ free → may ⟨k, n, s, l⟩ free = (hd1 ⟨k, n, s, l⟩ free && (if k = 5 then (match l with | [] => true | x :: r => may x free && alts r free []) else each l (if k = 2 then free + 1 else free))) := by
 intro k n s l free hf
 rw [may, hd1]
 simp only
 by_cases h1 : k = 1
 ·subst h1
  simp only [if_true]
  rw [if_neg (by decide), if_neg (by decide)]
  by_cases h : l.length = 0
  ·have : l = [] := List.eq_nil_of_length_eq_zero h
   subst this
   by_cases a : s.data.toList = [] <;> by_cases b : 0 ≤ n <;> by_cases c : n ≤ free - 1 <;> simp [a, b, c, each] <;> omega
  ·simp [h]
 simp only [h1, if_false]
 by_cases h7 : k = 7
 ·subst h7
  simp only [if_true]
  rw [if_neg (by decide), if_neg (by decide), if_neg (by decide), if_neg (by decide), if_neg (by decide), if_neg (by decide)]
  by_cases h : l.length = 0
  ·have : l = [] := List.eq_nil_of_length_eq_zero h
   subst this; simp [each, hf]
  ·simp [h]
 simp only [h7, if_false]
 by_cases h9 : k = 9
 ·subst h9
  simp only [if_true]
  rw [if_neg (by decide), if_neg (by decide), if_neg (by decide), if_neg (by decide), if_neg (by decide), if_neg (by decide), if_neg (by decide)]
  by_cases h : l.length = 0
  ·have : l = [] := List.eq_nil_of_length_eq_zero h
   subst this; simp [each, hf]
  ·simp [h]
 simp only [h9, if_false]
 by_cases h2 : k = 2
 ·subst h2
  simp only [if_true]
  rw [if_neg (by decide)]
  simp [hf, Bool.and_comm]
 simp only [h2, if_false]
 by_cases h3 : k = 3
 ·subst h3
  simp only [if_true]
  rw [if_neg (by decide)]
  simp [Bool.and_comm]
 simp only [h3, if_false]
 by_cases h8 : k = 8
 ·subst h8
  simp only [if_true]
  rw [if_neg (by decide), if_neg (by decide), if_neg (by decide)]
  cases oper s <;> cases each l free <;> simp [Bool.and_comm]
 simp only [h8, if_false]
 by_cases h4 : k = 4
 ·subst h4
  simp only [if_true]
  rw [if_neg (by decide)]
  cases con s <;> cases each l free <;> simp [hf, Bool.and_comm]
 simp only [h4, if_false]
 by_cases h5 : k = 5
 ·subst h5
  simp only [if_true]
  cases l with
  | nil => simp
  | cons x r =>
   rw [mayCase]
   simp only [List.length_cons]
   by_cases a : 1 ≤ r.length
   ·by_cases b : r.length ≤ 8
    ·have a2 : 2 ≤ r.length + 1 := by omega
     have b2 : r.length + 1 ≤ 9 := by omega
     simp [a, b, a2, b2]
    ·have b2 : ¬ r.length + 1 ≤ 9 := by omega
     simp [b, b2]
   ·have a2 : ¬ 2 ≤ r.length + 1 := by omega
    simp [a, a2]
 ·simp only [h5, if_false]
  rfl
def may6 (x : T) (free : Int) : Bool := hd6 x && each x.f3 (free + x.f1)
theorem alts_is (x : T) (r : List T) (free : Int) (seen : List T) : alts (x :: r) free seen = (may6 x free && !(seen.any fun b => decide (b.f2.data.toList = x.f2.data.toList)) && alts r free (seen ++ [x])) := by
 obtain ⟨k, n, s, l⟩ := x
 rw [alts, may6, hd6]
theorem same_of (x y : T) : same x y = (decide (x.f0 = y.f0) && decide (x.f2.data.toList = y.f2.data.toList) && decide (x.f1 = y.f1) && sames x.f3 y.f3) := by cases x; cases y; rw [same]
theorem sames_len : ∀ l l' : List T, l.length ≠ l'.length → sames l l' = false
 | [], [], h => absurd rfl h
 | [], y :: r, _ => by rw [sames] <;> simp
 | x :: r, [], _ => by rw [sames] <;> simp
 | x :: r, y :: r', h => by
  rw [sames, sames_len r r' (by simpa using h), Bool.and_false]
theorem same_refl : ∀ x : T, same x x = true
 | ⟨k, n, s, l⟩ => by rw [same, sames_refl l]; simp
where
 sames_refl : ∀ l : List T, sames l l = true
  | [] => by rw [sames]
  | x :: r => by rw [sames, same_refl x, sames_refl r]; rfl
end R6P
end Go.Proofs.YtnjmilelifmfpaaGreatDoor.Pure

namespace Go.Proofs.YtnjmilelifmfpaaGreatDoor.Pure
open Go Go.RowKit Go.Lib Go.Proofs Go.Proofs.YtnjmilelifmfpaaGreatDoor.Q Go.Proofs.YtnjmilelifmfpaaGreatDoorW.PrintWords Go.Proofs.YtnjmilelifmfpaaGreatDoorW.PrintLast Go.Proofs.YtnjmilelifmfpaaGreatDoorW.PrintMore
set_option linter.unusedVariables false
set_option linter.unusedSimpArgs false
namespace WK
abbrev Tr := S43
abbrev Tm := S24
theorem get_lt {α : Type} {l : List α} {i : Nat} {y : α} (h : l[i]? = some y) : i < l.length := (List.getElem?_eq_some_iff.1 h).1
theorem tm_get {w : World} {A : Option Addr} {l : List Tm} {i : Nat} {y : Tm} (h : Kd.C k24 w A l.length l) (hy : l[i]? = some y) : ∃ ad A3 c3, A = some ad ∧ w.cell? (ad.add (i * 4)) = some (.int .i64 y.f0) ∧ w.cell? ⟨(ad.add (i * 4)).block, (ad.add (i * 4)).off + 1, none⟩ = some (.int .i64 y.f1) ∧ w.cell? ⟨(ad.add (i * 4)).block, (ad.add (i * 4)).off + 2, none⟩ = some (.string y.f2) ∧ w.cell? ⟨(ad.add (i * 4)).block, (ad.add (i * 4)).off + 3, none⟩ = some (.slice A3 y.f3.length c3) ∧ y.f3.length ≤ c3 ∧ Kd.C k24 w A3 y.f3.length y.f3 := by
 have hi := get_lt hy
 have hr : rd_T24 l (i : Int) = y := by unfold rd_T24; rw [Int.toNat_natCast, List.getD_eq_getElem?_getD, hy]; rfl
 obtain ⟨ad, A3, c3, hA, x0, x1, x2, x3, hl, hc⟩ := at_T24 h (i : Int) (by omega) (by omega)
 rw [hr] at x0 x1 x2 x3 hl hc
 rw [Int.toNat_natCast] at x0 x1 x2 x3
 exact ⟨ad, A3, c3, hA, x0, x1, x2, x3, hl, hc⟩
theorem add0 (ad : Addr) : ad.add 0 = ad := by cases ad with | mk b o t => cases t <;> simp [Addr.add]
theorem add_more (ad : Addr) (n j : Nat) (hj : 0 < j) : ad.add (n + j) = ⟨(ad.add n).block, (ad.add n).off + j, none⟩ := by
 cases ad with
 | mk b o s =>
  cases n with
  | zero =>
   cases j with
   | zero => omega
   | succ j => simp [Addr.add]
  | succ n => simp [Addr.add]; omega
theorem tm_getF {w : World} {ok : Nat → Prop} {A : Option Addr} {l : List Tm} {i : Nat} {y : Tm} (h : Kd.F k24 w ok A l.length l) (hy : l[i]? = some y) : ∃ ad A4 c4, A = some ad ∧ w.cell? (ad.add (i * 4)) = some (.int .i64 y.f0) ∧ w.cell? ⟨(ad.add (i * 4)).block, (ad.add (i * 4)).off + 1, none⟩ = some (.int .i64 y.f1) ∧ w.cell? ⟨(ad.add (i * 4)).block, (ad.add (i * 4)).off + 2, none⟩ = some (.string y.f2) ∧ w.cell? ⟨(ad.add (i * 4)).block, (ad.add (i * 4)).off + 3, none⟩ = some (.slice A4 y.f3.length c4) ∧ y.f3.length ≤ c4 ∧ Kd.F k24 w ok A4 y.f3.length y.f3 := by
 have hi := get_lt hy
 obtain ⟨ad, c, rfl, hcl, hFK, hcc, _⟩ := Kd.F_get h y (i : Int) (by omega) (by omega)
 rw [Int.toNat_natCast, List.getD_eq_getElem?_getD, hy] at hFK
 obtain ⟨A3, c3, rfl, hl3, hF3⟩ := k24_openF hFK
 rw [Int.toNat_natCast] at hcc
 have h0 := hcc 0 _ rfl; have h1 := hcc 1 _ rfl; have h2 := hcc 2 _ rfl; have h3 := hcc 3 _ rfl
 rw [show k24.sz = 4 from rfl] at h0 h1 h2 h3
 rw [add_more _ _ _ (by omega)] at h1 h2 h3
 exact ⟨ad, A3, c3, rfl, h0, h1, h2, h3, hl3, hF3⟩
theorem blk4 {W : World} {g t : Nat} {v0 v1 v2 v3 : Value} (h : W.heap[g]? = some (.cells #[v0, v1, v2, v3] t (0, 0))) (u0 u1 u2 u3 : Value) : ((((W.setCell ⟨g, 0, none⟩ u0).setCell ⟨g, 1, none⟩ u1).setCell ⟨g, 2, none⟩ u2).setCell ⟨g, 3, none⟩ u3).heap[g]? = some (.cells #[u0, u1, u2, u3] t (0, 0)) := by
 have h0 := blk_set h 0 u0
 rw [show (#[v0, v1, v2, v3] : Array Value).setIfInBounds 0 u0 = #[u0, v1, v2, v3] from rfl] at h0
 have h1 := blk_set h0 1 u1
 rw [show (#[u0, v1, v2, v3] : Array Value).setIfInBounds 1 u1 = #[u0, u1, v2, v3] from rfl] at h1
 have h2 := blk_set h1 2 u2
 rw [show (#[u0, u1, v2, v3] : Array Value).setIfInBounds 2 u2 = #[u0, u1, u2, v3] from rfl] at h2
 have h3 := blk_set h2 3 u3
 rw [show (#[u0, u1, u2, v3] : Array Value).setIfInBounds 3 u3 = #[u0, u1, u2, u3] from rfl] at h3
 exact h3
theorem below4 {w W : World} {g : Nat} (h : Below w.heap.size w W) (hg : w.heap.size ≤ g) (u0 u1 u2 u3 : Value) : Below w.heap.size w ((((W.setCell ⟨g, 0, none⟩ u0).setCell ⟨g, 1, none⟩ u1).setCell ⟨g, 2, none⟩ u2).setCell ⟨g, 3, none⟩ u3) := below_set (below_set (below_set (below_set h hg) hg) hg) hg
theorem F4 {α : Type} {d : Kd α} {W : World} {ok : Nat → Prop} {g m : Nat} {A : Option Addr} {l : List α} (h : Kd.F d W ok A m l) (hk : ∀ k, ok k → k ≠ g) (u0 u1 u2 u3 : Value) : Kd.F d ((((W.setCell ⟨g, 0, none⟩ u0).setCell ⟨g, 1, none⟩ u1).setCell ⟨g, 2, none⟩ u2).setCell ⟨g, 3, none⟩ u3) ok A m l := Kd.F_far (p := ⟨g, 3, none⟩) (Kd.F_far (p := ⟨g, 2, none⟩) (Kd.F_far (p := ⟨g, 1, none⟩) (Kd.F_far (p := ⟨g, 0, none⟩) h hk u0) hk u1) hk u2) hk u3
theorem row1 {W : World} {g : Nat} {x : Tm} {cs : List Value} (hn : W.heap[g]? = some (.cells cs.toArray 24 (0, 0))) (h : k24.K W x cs) : Kd.C k24 W (some ⟨g, 0, none⟩) 1 [x] := by
 refine ⟨rfl, by decide, fun _ => ⟨_, rfl, fun j p hj => ?_⟩⟩
 match j, hj with
 | 0, hj =>
  obtain rfl : x = p := by simpa using hj
  refine ⟨cs, k24.K_len h, h, fun i u hi => ?_⟩
  have := blk_cell hn i
  have e : (⟨g, 0, none⟩ : Addr).add (0 * k24.sz + i) = ⟨g, i, none⟩ := by rw [Nat.zero_mul, Nat.zero_add]; simp only [Addr.add]; split <;> simp_all
  rw [e, this]; simpa using hi
end WK
end Go.Proofs.YtnjmilelifmfpaaGreatDoor.Pure

namespace Go.Proofs.YtnjmilelifmfpaaGreatDoor.Q
open Go.RowKit Go.Proofs.YtnjmilelifmfpaaGreatDoorW.PrintWords Go.Proofs.YtnjmilelifmfpaaGreatDoorW.PrintLast Go.Proofs.YtnjmilelifmfpaaGreatDoorW.PrintMore
attribute [local go_sem] max2_int min2_int max_two min_two max_three min_three max_four min_four
set_option linter.unusedVariables false
set_option linter.unusedSimpArgs false

mutual
def gossamerref01_class.j0 : Nat → Int → Bool → Option (Int)
 | 0, _, _ => none
 | k + 1, x0, x8 => if x8 = true then (some 1) else (if x0 ≥ 65 then (gossamerref01_class.j1 k x0 (decide (x0 ≤ 90))) else (gossamerref01_class.j1 k x0 false))
def gossamerref01_class.j1 : Nat → Int → Bool → Option (Int)
 | 0, _, _ => none
 | k + 1, x0, x14 => if x14 = true then (some 2) else (if x0 ≥ 48 then (gossamerref01_class.j2 k x0 (decide (x0 ≤ 57))) else (gossamerref01_class.j2 k x0 false))
def gossamerref01_class.j2 : Nat → Int → Bool → Option (Int)
 | 0, _, _ => none
 | k + 1, x0, x20 => if x20 = true then (some 3) else (if x0 = 32 then (some 4) else (if x0 = 10 then (some 4) else (if x0 = 9 then (some 4) else (some 0))))
end
def gossamerref01_class.f (k : Nat) (a0 : Int) : Option (Int) := if a0 ≥ 97 then (gossamerref01_class.j0 k a0 (decide (a0 ≤ 122))) else (gossamerref01_class.j0 k a0 false)
theorem gossamerref01_class.mono_l : ∀ k, (∀ y0 y1, LeO (gossamerref01_class.j0 k y0 y1) (gossamerref01_class.j0 (k + 1) y0 y1)) ∧ (∀ y0 y1, LeO (gossamerref01_class.j1 k y0 y1) (gossamerref01_class.j1 (k + 1) y0 y1)) ∧ (∀ y0 y1, LeO (gossamerref01_class.j2 k y0 y1) (gossamerref01_class.j2 (k + 1) y0 y1))
 | 0 => ⟨fun _ _ r h => by simp [gossamerref01_class.j0] at h, fun _ _ r h => by simp [gossamerref01_class.j1] at h, fun _ _ r h => by simp [gossamerref01_class.j2] at h⟩
 | k + 1 => by
  obtain ⟨ih0, ih1, ih2⟩ := gossamerref01_class.mono_l k
  refine ⟨?_, ?_, ?_⟩
  ·intro y0 y1
   unfold gossamerref01_class.j0
   repeat' first
   | (with_reducible exact ih0 _ _)
   | (with_reducible exact ih1 _ _)
   | (with_reducible exact ih2 _ _)
   | (with_reducible exact LeO.refl _)
   | (with_reducible exact LeO.none _)
   | (with_reducible refine LeO.ite ?_ ?_)
   | (with_reducible refine LeO.bind ?_ (fun _ => ?_))
   | exact ih0 _ _
   | exact ih1 _ _
   | exact ih2 _ _
   | exact LeO.none _
   | refine LeO.ite ?_ ?_
   | refine LeO.bind ?_ (fun _ => ?_)
  ·intro y0 y1
   unfold gossamerref01_class.j1
   repeat' first
   | (with_reducible exact ih0 _ _)
   | (with_reducible exact ih1 _ _)
   | (with_reducible exact ih2 _ _)
   | (with_reducible exact LeO.refl _)
   | (with_reducible exact LeO.none _)
   | (with_reducible refine LeO.ite ?_ ?_)
   | (with_reducible refine LeO.bind ?_ (fun _ => ?_))
   | exact ih0 _ _
   | exact ih1 _ _
   | exact ih2 _ _
   | exact LeO.none _
   | refine LeO.ite ?_ ?_
   | refine LeO.bind ?_ (fun _ => ?_)
  ·intro y0 y1
   unfold gossamerref01_class.j2
   repeat' first
   | (with_reducible exact ih0 _ _)
   | (with_reducible exact ih1 _ _)
   | (with_reducible exact ih2 _ _)
   | (with_reducible exact LeO.refl _)
   | (with_reducible exact LeO.none _)
   | (with_reducible refine LeO.ite ?_ ?_)
   | (with_reducible refine LeO.bind ?_ (fun _ => ?_))
   | exact ih0 _ _
   | exact ih1 _ _
   | exact ih2 _ _
   | exact LeO.none _
   | refine LeO.ite ?_ ?_
   | refine LeO.bind ?_ (fun _ => ?_)
theorem gossamerref01_class.mono : ∀ a0 k, LeO (gossamerref01_class.f k a0) (gossamerref01_class.f (k + 1) a0) := by
 intro a0 k
 obtain ⟨ih0, ih1, ih2⟩ := gossamerref01_class.mono_l k
 unfold gossamerref01_class.f
 repeat' first
   | (with_reducible exact ih0 _ _)
   | (with_reducible exact ih1 _ _)
   | (with_reducible exact ih2 _ _)
   | (with_reducible exact LeO.refl _)
   | (with_reducible exact LeO.none _)
   | (with_reducible refine LeO.ite ?_ ?_)
   | (with_reducible refine LeO.bind ?_ (fun _ => ?_))
   | exact ih0 _ _
   | exact ih1 _ _
   | exact ih2 _ _
   | exact LeO.none _
   | refine LeO.ite ?_ ?_
   | refine LeO.bind ?_ (fun _ => ?_)
set_option maxHeartbeats 8000000 in
set_option maxRecDepth 100000 in
theorem gossamerref01_class.calls (k : Nat) (a0 : Int) (r : Int) (w : World) (h : gossamerref01_class.f k a0 = some r) :
  Calls Tryz.prog 67 #[.int .u8 a0] w fun e w' => e = .returned (.int .i64 r) ∧ Drawn0 w w' := by
 have H : (if a0 ≥ 97 then (gossamerref01_class.j0 k a0 (decide (a0 ≤ 122))) else (gossamerref01_class.j0 k a0 false)) = some r := h
 clear h
 have HC2 := Aside0.mk H
 clear H
 go_enter Tryz.func67, Tryz.ntmps67
 go_upto_region 1 with (fail)
 go_cut [8] (fun v8 wc => ∃ (kq : Nat) (x8_1 : Bool), v8 = .bool x8_1 ∧ Aside0 (gossamerref01_class.j0 kq a0 x8_1 = some r) ∧ Aside0 (kq ≤ k) ∧ Drawn0 w wc)
 case first =>
  have H := HC2.out
  clear HC2
  by_cases c3 : a0 ≥ 97
  ·rw [if_pos c3] at H
   have c3b0 : decide (97 ≤ a0) = true := decide_eq_true c3
   clear c3
   (first|rw [c3b0]|(simp only [i64_w, i32_w]; rw [c3b0]) | skip)
   have H' := Aside0.mk H
   clear H
   go_wp2
   go_meet
   case rel => exact ⟨_, (decide (a0 ≤ 122)), (by first|rfl|(simp; done)|(simp [*]; done)), H', ⟨by first | omega|exact Nat.le_refl _⟩, by repeat (first|exact Drawn0.refl _|apply Drawn0.step)⟩
  ·rw [if_neg c3] at H
   have c3b0 : decide (97 ≤ a0) = false := decide_eq_false c3
   clear c3
   (first|rw [c3b0]|(simp only [i64_w, i32_w]; rw [c3b0]) | skip)
   have H' := Aside0.mk H
   clear H
   go_wp2
   go_meet
   case rel => exact ⟨_, (false), (by first|rfl|(simp; done)|(simp [*]; done)), H', ⟨by first | omega|exact Nat.le_refl _⟩, by repeat (first|exact Drawn0.refl _|apply Drawn0.step)⟩
 case rest =>
  clear HC2
  try clear p2
  try clear c3
  try clear c3b0
  obtain ⟨kq, x8_1, rfl, HA, HJ1, ⟨mc1, rfl⟩⟩ := hcut
  cases kq with
  | zero => exact absurd HA.out (by simp [gossamerref01_class.j0])
  | succ kj1 =>
   have H := HA.out
   clear HA
   simp only [gossamerref01_class.j0] at H
   by_cases c4 : x8_1 = true
   ·subst c4
    have H1 : (some 1) = some r := by rw [if_pos rfl] at H; exact H
    clear H
    have H := H1
    clear H1
    obtain rfl := Option.some.inj H
    go_wp2
    go_ret
    exact ⟨by first|rfl|(simp; done)|(simp [*]; done), by repeat (first|exact Drawn0.refl _|apply Drawn0.step)⟩
   ·replace c4 := Bool.eq_false_iff.mpr c4
    subst c4
    have H1 : (if a0 ≥ 65 then (gossamerref01_class.j1 kj1 a0 (decide (a0 ≤ 90))) else (gossamerref01_class.j1 kj1 a0 false)) = some r := by rw [if_neg (show ¬ (false = true) by decide)] at H; exact H
    clear H
    have H := H1
    clear H1
    have HC5 := Aside0.mk H
    clear H
    go_upto_region 3 with (fail)
    go_cut [14] (fun v14 wc => ∃ (kq : Nat) (x14_4 : Bool), v14 = .bool x14_4 ∧ Aside0 (gossamerref01_class.j1 kq a0 x14_4 = some r) ∧ Aside0 (kq ≤ kj1) ∧ Drawn0 w wc)
    case first =>
     have H := HC5.out
     clear HC5
     by_cases c6 : a0 ≥ 65
     ·rw [if_pos c6] at H
      have c6b0 : decide (65 ≤ a0) = true := decide_eq_true c6
      clear c6
      (first|rw [c6b0]|(simp only [i64_w, i32_w]; rw [c6b0]) | skip)
      have H' := Aside0.mk H
      clear H
      go_wp2
      go_meet
      case rel => exact ⟨_, (decide (a0 ≤ 90)), (by first|rfl|(simp; done)|(simp [*]; done)), H', ⟨by have := HJ1.out; first | omega|exact Nat.le_refl _⟩, by repeat (first|exact Drawn0.refl _|apply Drawn0.step)⟩
     ·rw [if_neg c6] at H
      have c6b0 : decide (65 ≤ a0) = false := decide_eq_false c6
      clear c6
      (first|rw [c6b0]|(simp only [i64_w, i32_w]; rw [c6b0]) | skip)
      have H' := Aside0.mk H
      clear H
      go_wp2
      go_meet
      case rel => exact ⟨_, (false), (by first|rfl|(simp; done)|(simp [*]; done)), H', ⟨by have := HJ1.out; first | omega|exact Nat.le_refl _⟩, by repeat (first|exact Drawn0.refl _|apply Drawn0.step)⟩
    case rest =>
     clear HC5
     try clear c1
     try clear p2
     try clear c3
     try clear c3b0
     try clear c4
     try clear c6
     try clear c6b0
     try clear p2
     obtain ⟨kq, x14_4, rfl, HA, HJ4, ⟨mc4, rfl⟩⟩ := hcut
     cases kq with
     | zero => exact absurd HA.out (by simp [gossamerref01_class.j1])
     | succ kj4 =>
      have H := HA.out
      clear HA
      simp only [gossamerref01_class.j1] at H
      by_cases c7 : x14_4 = true
      ·subst c7
       have H1 : (some 2) = some r := by rw [if_pos rfl] at H; exact H
       clear H
       have H := H1
       clear H1
       obtain rfl := Option.some.inj H
       go_wp2
       go_ret
       exact ⟨by first|rfl|(simp; done)|(simp [*]; done), by repeat (first|exact Drawn0.refl _|apply Drawn0.step)⟩
      ·replace c7 := Bool.eq_false_iff.mpr c7
       subst c7
       have H1 : (if a0 ≥ 48 then (gossamerref01_class.j2 kj4 a0 (decide (a0 ≤ 57))) else (gossamerref01_class.j2 kj4 a0 false)) = some r := by rw [if_neg (show ¬ (false = true) by decide)] at H; exact H
       clear H
       have H := H1
       clear H1
       have HC8 := Aside0.mk H
       clear H
       go_upto_region 5 with (fail)
       go_cut [20] (fun v20 wc => ∃ (kq : Nat) (x20_7 : Bool), v20 = .bool x20_7 ∧ Aside0 (gossamerref01_class.j2 kq a0 x20_7 = some r) ∧ Aside0 (kq ≤ kj4) ∧ Drawn0 w wc)
       case first =>
        have H := HC8.out
        clear HC8
        by_cases c9 : a0 ≥ 48
        ·rw [if_pos c9] at H
         have c9b0 : decide (48 ≤ a0) = true := decide_eq_true c9
         clear c9
         (first|rw [c9b0]|(simp only [i64_w, i32_w]; rw [c9b0]) | skip)
         have H' := Aside0.mk H
         clear H
         go_wp2
         go_meet
         case rel => exact ⟨_, (decide (a0 ≤ 57)), (by first|rfl|(simp; done)|(simp [*]; done)), H', ⟨by have := HJ1.out; have := HJ4.out; first | omega|exact Nat.le_refl _⟩, by repeat (first|exact Drawn0.refl _|apply Drawn0.step)⟩
        ·rw [if_neg c9] at H
         have c9b0 : decide (48 ≤ a0) = false := decide_eq_false c9
         clear c9
         (first|rw [c9b0]|(simp only [i64_w, i32_w]; rw [c9b0]) | skip)
         have H' := Aside0.mk H
         clear H
         go_wp2
         go_meet
         case rel => exact ⟨_, (false), (by first|rfl|(simp; done)|(simp [*]; done)), H', ⟨by have := HJ1.out; have := HJ4.out; first | omega|exact Nat.le_refl _⟩, by repeat (first|exact Drawn0.refl _|apply Drawn0.step)⟩
       case rest =>
        clear HC8
        try clear c1
        try clear p2
        try clear c3
        try clear c3b0
        try clear c4
        try clear c6
        try clear c6b0
        try clear c7
        try clear c9
        try clear c9b0
        try clear p2
        obtain ⟨kq, x20_7, rfl, HA, HJ7, ⟨mc7, rfl⟩⟩ := hcut
        cases kq with
        | zero => exact absurd HA.out (by simp [gossamerref01_class.j2])
        | succ kj7 =>
         have H := HA.out
         clear HA
         simp only [gossamerref01_class.j2] at H
         by_cases c10 : x20_7 = true
         ·subst c10
          have H1 : (some 3) = some r := by rw [if_pos rfl] at H; exact H
          clear H
          have H := H1
          clear H1
          obtain rfl := Option.some.inj H
          go_wp2
          go_ret
          exact ⟨by first|rfl|(simp; done)|(simp [*]; done), by repeat (first|exact Drawn0.refl _|apply Drawn0.step)⟩
         ·replace c10 := Bool.eq_false_iff.mpr c10
          subst c10
          have H1 : (if a0 = 32 then (some 4) else (if a0 = 10 then (some 4) else (if a0 = 9 then (some 4) else (some 0)))) = some r := by rw [if_neg (show ¬ (false = true) by decide)] at H; exact H
          clear H
          have H := H1
          clear H1
          by_cases c11 : a0 = 32
          ·rw [if_pos c11] at H
           have c11b0 : (a0 == 32) = true := beq_iff_eq.mpr c11
           have c11b1 : (a0 != 32) = false := bne_eq_false_iff_eq.mpr c11
           clear c11
           obtain rfl := Option.some.inj H
           go_wp2
           go_ret
           exact ⟨by first|rfl|(simp; done)|(simp [*]; done), by repeat (first|exact Drawn0.refl _|apply Drawn0.step)⟩
          ·rw [if_neg c11] at H
           have c11b0 : (a0 == 32) = false := beq_eq_false_iff_ne.mpr c11
           have c11b1 : (a0 != 32) = true := bne_iff_ne.mpr c11
           by_cases c12 : a0 = 10
           ·rw [if_pos c12] at H
            have c12b0 : (a0 == 10) = true := beq_iff_eq.mpr c12
            have c12b1 : (a0 != 10) = false := bne_eq_false_iff_eq.mpr c12
            clear c12
            obtain rfl := Option.some.inj H
            go_wp2
            go_ret
            exact ⟨by first|rfl|(simp; done)|(simp [*]; done), by repeat (first|exact Drawn0.refl _|apply Drawn0.step)⟩
           ·rw [if_neg c12] at H
            have c12b0 : (a0 == 10) = false := beq_eq_false_iff_ne.mpr c12
            have c12b1 : (a0 != 10) = true := bne_iff_ne.mpr c12
            by_cases c13 : a0 = 9
            ·rw [if_pos c13] at H
             have c13b0 : (a0 == 9) = true := beq_iff_eq.mpr c13
             have c13b1 : (a0 != 9) = false := bne_eq_false_iff_eq.mpr c13
             clear c13
             obtain rfl := Option.some.inj H
             go_wp2
             go_ret
             exact ⟨by first|rfl|(simp; done)|(simp [*]; done), by repeat (first|exact Drawn0.refl _|apply Drawn0.step)⟩
            ·rw [if_neg c13] at H
             have c13b0 : (a0 == 9) = false := beq_eq_false_iff_ne.mpr c13
             have c13b1 : (a0 != 9) = true := bne_iff_ne.mpr c13
             obtain rfl := Option.some.inj H
             go_wp2
             go_ret
             exact ⟨by first|rfl|(simp; done)|(simp [*]; done), by repeat (first|exact Drawn0.refl _|apply Drawn0.step)⟩

end Go.Proofs.YtnjmilelifmfpaaGreatDoor.Q
