/- Plain Lean: terms, and what layer 6 tells of them. No program in sight, but for the printed type of terms. -/
import Derived.Test.YtlokmdjhpaimbaaDoorQx0
import Derived.Test.YtlokmdjhpaimbaaDoorHLex
namespace Go.Proofs.YtlokmdjhpaimbaaDoor.HCore
open Go.Proofs.YtlokmdjhpaimbaaDoor.Q
abbrev T := S24
mutual
def height : T → Nat
  | ⟨_, _, _, l⟩ => heights l + 1
def heights : List T → Nat
  | [] => 0
  | x :: r => max (height x) (heights r)
end
mutual
def size : T → Nat
  | ⟨_, _, _, l⟩ => sizes l + 1
def sizes : List T → Nat
  | [] => 0
  | x :: r => size x + sizes r
end
mutual
/-- How many letters and parts. -/
def wt : T → Nat
  | ⟨_, _, s, l⟩ => s.size + 1 + wts l
def wts : List T → Nat
  | [] => 0
  | x :: r => wt x + wts r
end
mutual
/-- Its numbers are numbers. -/
def Ok : T → Prop
  | ⟨k, n, _, l⟩ => (Go.Lit.int .i64 k).wf = true ∧ (Go.Lit.int .i64 n).wf = true ∧ Oks l
def Oks : List T → Prop
  | [] => True
  | x :: r => Ok x ∧ Oks r
end
def con (s : ByteArray) : Bool := match HLex.lex s.data.toList with
  | .ok [t] => decide (t.kind = 2) && decide (t.text = s.data.toList)
  | _ => false
def oper (s : ByteArray) : Bool := [[43], [45], [42], [47], [60], [61, 61]].contains s.data.toList
def bare (n : Int) (s : ByteArray) : Bool := decide (s.data.toList = []) && decide (n = 0)
mutual
def may : T → Int → Bool
  | ⟨k, n, s, l⟩, free =>
    if k = 1 then decide (l.length = 0) && decide (s.data.toList = []) && decide (0 ≤ n) && decide (n ≤ free - 1)
    else if k = 7 then decide (l.length = 0) && decide (s.data.toList = []) && decide (0 ≤ free)
    else if k = 9 then decide (l.length = 0) && bare n s && decide (0 ≤ free)
    else if k = 2 then decide (l.length = 1) && bare n s && decide (0 ≤ free) && each l (free + 1)
    else if k = 3 then decide (l.length = 2) && bare n s && each l free
    else if k = 8 then decide (l.length = 2) && decide (n = 0) && oper s && each l free
    else if k = 4 then decide (l.length ≤ 8) && decide (n = 0) && con s && decide (0 ≤ free) && each l free
    else if k = 5 then decide (2 ≤ l.length) && bare n s && mayCase l free
    else false
def each : List T → Int → Bool
  | [], _ => true
  | x :: r, free => may x free && each r free
def mayCase : List T → Int → Bool
  | [], _ => false
  | x :: r, free => may x free && alts r free [] && decide (1 ≤ r.length) && decide (r.length ≤ 8)
def alts : List T → Int → List T → Bool
  | [], _, _ => true
  | ⟨k, n, s, l⟩ :: r, free, seen => decide (k = 6) && con s && decide (0 ≤ n) && decide (n ≤ 8) && decide (l.length = 1) && each l (free + n) && !(seen.any fun b => decide (b.f2.data.toList = s.data.toList)) && alts r free (seen ++ [⟨k, n, s, l⟩])
end
mutual
def same : T → T → Bool
  | ⟨k, n, s, l⟩, ⟨k', n', s', l'⟩ => decide (k = k') && decide (s.data.toList = s'.data.toList) && decide (n = n') && sames l l'
def sames : List T → List T → Bool
  | [], [] => true
  | x :: r, y :: r' => same x y && sames r r'
  | _, _ => false
end
theorem height_get {l : List T} {x : T} (h : x ∈ l) : height x ≤ heights l := by
  induction l with
  | nil => cases h
  | cons y r ih =>
    simp only [heights]
    rcases List.mem_cons.1 h with rfl | h
    · omega
    · have := ih h; omega
theorem wt_get {l : List T} {x : T} (h : x ∈ l) : wt x ≤ wts l := by
  induction l with
  | nil => cases h
  | cons y r ih =>
    simp only [wts]
    rcases List.mem_cons.1 h with rfl | h
    · omega
    · have := ih h; omega
theorem wt_pos : ∀ x : T, 1 ≤ wt x
  | ⟨_, _, _, _⟩ => by simp only [wt]; omega
theorem len_wts : ∀ l : List T, l.length ≤ wts l
  | [] => Nat.le_refl _
  | x :: r => by have := len_wts r; have := wt_pos x; simp only [wts, List.length_cons]; omega
theorem each_iff (free : Int) : ∀ l : List T, each l free = l.all (fun x => may x free)
  | [] => rfl
  | x :: r => by simp only [each, List.all_cons, each_iff free r]
end Go.Proofs.YtlokmdjhpaimbaaDoor.HCore
