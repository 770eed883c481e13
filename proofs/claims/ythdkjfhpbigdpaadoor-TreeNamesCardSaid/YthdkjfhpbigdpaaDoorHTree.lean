/- Plain Lean: trees, and what layer 2 tells of them. No program in sight, but for the printed type of trees. -/
import Derived.Test.YthdkjfhpbigdpaaDoorQx0
import Derived.Test.YthdkjfhpbigdpaaDoorHLex
namespace Go.Proofs.YthdkjfhpbigdpaaDoor.HTree
open Go.Proofs.YthdkjfhpbigdpaaDoor.Q
abbrev T := S24
mutual
def height : T → Nat
  | ⟨_, _, _, _, l⟩ => heights l + 1
def heights : List T → Nat
  | [] => 0
  | x :: r => max (height x) (heights r)
end
mutual
def size : T → Nat
  | ⟨_, _, _, _, l⟩ => sizes l + 1
def sizes : List T → Nat
  | [] => 0
  | x :: r => size x + sizes r
end
mutual
/-- How many letters and parts. -/
def wt : T → Nat
  | ⟨_, s, _, _, l⟩ => s.size + 1 + wts l
def wts : List T → Nat
  | [] => 0
  | x :: r => wt x + wts r
end
mutual
/-- Its numbers are numbers. -/
def Ok : T → Prop
  | ⟨k, _, n, a, l⟩ => (Go.Lit.int .i64 k).wf = true ∧ (Go.Lit.int .i64 n).wf = true ∧ (Go.Lit.int .i64 a).wf = true ∧ Oks l
def Oks : List T → Prop
  | [] => True
  | x :: r => Ok x ∧ Oks r
end
/-- Is a text one token, of a kind? -/
def token (s : ByteArray) (k : Nat) : Bool := match HLex.lex s.data.toList with
  | .ok [t] => decide (t.kind = k) && decide (t.text = s.data.toList)
  | _ => false
def oper (s : ByteArray) : Bool := [[43], [45], [42], [47], [60], [61, 61]].contains s.data.toList
/-- What a kind's Name must be: nothing 0, a name 1, a constructor's 2, an operator's 3. -/
def what (k : Int) : Int := if k = 1 ∨ k = 2 ∨ k = 4 ∨ k = 5 then 1 else if k = 6 ∨ k = 8 then 2 else if k = 10 then 3 else 0
def named (s : ByteArray) (w : Int) : Bool := if w = 1 then token s 1 else if w = 2 then token s 2 else if w = 3 then oper s else decide (s.data.toList = [])
def least (k : Int) : Int := if k = 2 ∨ k = 8 then 1 else if k = 3 ∨ k = 4 ∨ k = 5 ∨ k = 7 ∨ k = 10 then 2 else 0
def most (k : Int) : Int := if k = 2 then 1 else if k = 3 ∨ k = 4 ∨ k = 5 ∨ k = 10 then 2 else if k = 6 then 8 else if k = 7 ∨ k = 8 then 9 else 0
def number (k n : Int) (len : Nat) : Bool := if k = 9 then decide (0 ≤ n) && decide (n ≤ 999999999999999999) else if k = 8 then decide (n = (len : Int) - 1) else decide (n = 0)
mutual
/-- May a tree be, a whole one or not? -/
def may : T → Bool
  | ⟨k, s, n, a, l⟩ => decide (1 ≤ k) && decide (k ≤ 10) && decide (least k ≤ (l.length : Int)) && decide ((l.length : Int) ≤ most k) && named s (what k) && number k n l.length && decide (0 ≤ a) && parts k n l 0
/-- May its parts be, from a place on? -/
def parts : Int → Int → List T → Int → Bool
  | _, _, [], _ => true
  | k, n, ⟨k', s', n', a', l'⟩ :: r, i => (if k = 7 ∧ 0 < i then decide (k' = 8) && may ⟨k', s', n', a', l'⟩ else if k = 8 ∧ i < n ∧ k' ≠ 1 then false else decide (k' ≠ 8) && may ⟨k', s', n', a', l'⟩) && parts k n r (i + 1)
end
/-- May a part be at a place? -/
def part (k n : Int) (x : T) (i : Int) : Bool := if k = 7 ∧ 0 < i then decide (x.f0 = 8) && may x else if k = 8 ∧ i < n ∧ x.f0 ≠ 1 then false else decide (x.f0 ≠ 8) && may x
def whole (x : T) : Bool := decide (x.f0 ≠ 8) && may x
mutual
def same : T → T → Bool
  | ⟨k, s, n, _, l⟩, ⟨k', s', n', _, l'⟩ => decide (k = k') && decide (s.data.toList = s'.data.toList) && decide (n = n') && sames l l'
def sames : List T → List T → Bool
  | [], [] => true
  | x :: r, y :: r' => same x y && sames r r'
  | _, _ => false
end
mutual
def one : T → T → Bool
  | ⟨k, s, n, a, l⟩, ⟨k', s', n', a', l'⟩ => decide (k = k') && decide (s.data.toList = s'.data.toList) && decide (n = n') && decide (a = a') && ones l l'
def ones : List T → List T → Bool
  | [], [] => true
  | x :: r, y :: r' => one x y && ones r r'
  | _, _ => false
end
mutual
def bare : T → T
  | ⟨k, s, n, _, l⟩ => ⟨k, s, n, 0, bares l⟩
def bares : List T → List T
  | [] => []
  | x :: r => bare x :: bares r
end
theorem height_get {l : List T} {x : T} (h : x ∈ l) : height x ≤ heights l := by
  induction l with
  | nil => cases h
  | cons y r ih =>
    simp only [heights]
    rcases List.mem_cons.1 h with rfl | h
    · omega
    · have := ih h; omega
theorem wt_get {l : List T} {x : T} (h : x ∈ l) : wt x ≤ wts l := by
  induction l with
  | nil => cases h
  | cons y r ih =>
    simp only [wts]
    rcases List.mem_cons.1 h with rfl | h
    · omega
    · have := ih h; omega
theorem wt_pos : ∀ x : T, 1 ≤ wt x
  | ⟨_, _, _, _, _⟩ => by simp only [wt]; omega
theorem len_wts : ∀ l : List T, l.length ≤ wts l
  | [] => Nat.le_refl _
  | x :: r => by have := len_wts r; have := wt_pos x; simp only [wts, List.length_cons]; omega
theorem parts_cons (k n : Int) (x : T) (r : List T) (i : Int) : parts k n (x :: r) i = (part k n x i && parts k n r (i + 1)) := by cases x; rfl
end Go.Proofs.YthdkjfhpbigdpaaDoor.HTree
