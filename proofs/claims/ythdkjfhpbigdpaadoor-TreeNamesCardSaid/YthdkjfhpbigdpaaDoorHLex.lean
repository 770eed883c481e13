/- Plain Lean: the tokens of a text, as a function on its bytes. No program in sight. -/
namespace Go.Proofs.YthdkjfhpbigdpaaDoor.HLex

def lower (c : UInt8) : Bool := decide (97 ≤ c.toNat) && decide (c.toNat ≤ 122)
def upper (c : UInt8) : Bool := decide (65 ≤ c.toNat) && decide (c.toNat ≤ 90)
def digit (c : UInt8) : Bool := decide (48 ≤ c.toNat) && decide (c.toNat ≤ 57)
def wordly (c : UInt8) : Bool := lower c || upper c || digit c
def blank (c : UInt8) : Bool := c == 32 || c == 10 || c == 9

/-- The words of the language. -/
def words : List (List UInt8) := [[108, 101, 116], [108, 101, 116, 114, 101, 99], [105, 110], [99, 97, 115, 101], [111, 102]]
def isWord (l : List UInt8) : Bool := words.contains l

/-- The signs, those of two bytes first. -/
def signs : List (List UInt8) := [[45, 62], [61, 61], [92], [46], [40], [41], [61], [123], [125], [124], [43], [45], [42], [47], [60]]

/-- The number of digits. -/
def num (l : List UInt8) : Nat := l.foldl (fun n c => 10 * n + (c.toNat - 48)) 0

structure Tok where
  kind : Nat
  text : List UInt8
  n : Nat
  pos : Nat
deriving DecidableEq, Repr

/-- The token that a run of letters and digits is: its kind and number, or an error. -/
def named (w : List UInt8) : Except Nat (Nat × Nat) :=
  if (w.head?.map digit).getD false then
    if w.any (fun c => decide (57 < c.toNat)) then .error 10
    else if 18 < w.length ∨ 1 < w.length ∧ w.head? = some 48 then .error 11
    else .ok (3, num w)
  else if 16 < w.length then .error 11
  else if isWord w then .ok (4, 0)
  else if (w.head?.map upper).getD false then .ok (2, 0)
  else .ok (1, 0)

/-- The token at the front of a text that begins with no blank: kind, text, number. -/
def first (l : List UInt8) : Except Nat (Nat × List UInt8 × Nat) :=
  let w := l.takeWhile wordly
  if w = [] then
    match signs.find? (fun s => s.isPrefixOf l) with
    | some s => .ok (5, s, 0)
    | none => .error 10
  else match named w with
    | .ok (k, n) => .ok (k, w, n)
    | .error e => .error e

/-- All tokens from a place on, or where it is none, and its error. -/
def lexFrom : Nat → Nat → List UInt8 → Except (Nat × Nat) (List Tok)
  | 0, _, _ => .ok []
  | f + 1, pos, l =>
    let r := l.dropWhile blank
    let p := pos + (l.length - r.length)
    if r = [] then .ok []
    else match first r with
      | .error e => .error (p, e)
      | .ok (k, t, n) => match lexFrom f (p + t.length) (r.drop t.length) with
        | .ok ts => .ok (⟨k, t, n, p⟩ :: ts)
        | .error e => .error e

def lex (l : List UInt8) : Except (Nat × Nat) (List Tok) := lexFrom (l.length + 1) 0 l

end Go.Proofs.YthdkjfhpbigdpaaDoor.HLex
