/- Plain definitions: what the lexer answers, in lists of bytes (as whole numbers). No condition. -/
import Derived.WalkKit
namespace Go.Proofs.YtegbfimfpkendaaDoor.LexS
structure Tok where
  kind : Int
  text : List Int
  line : Int
  deriving DecidableEq
def kindI (c : Int) : Int :=
  if (97 ≤ c ∧ c ≤ 122) ∨ (65 ≤ c ∧ c ≤ 90) then 2
  else if 48 ≤ c ∧ c ≤ 57 then 3
  else if c = 32 ∨ c = 9 ∨ c = 13 then 1
  else if c = 35 then 4
  else if c = 10 then 5
  else 0
def nextI : List Int → Int
  | [] => 5
  | c :: _ => kindI c
def isK (k : Int) (c : Int) : Bool := kindI c == k
def notNl (c : Int) : Bool := !(c == 10)
def endOf (line : Int) (begun : Bool) (acc : List Tok) : List Tok := if begun = true then acc ++ [⟨3, [], line⟩] else acc
def lexB : Nat → List Int → Int → Bool → List Tok → List Tok × Int × Int
  | 0, _, _, _, _ => ([], 0, 0)
  | _ + 1, [], line, begun, acc => (endOf line begun acc, 0, 0)
  | n + 1, c :: cs, line, begun, acc =>
    if kindI c = 1 then lexB n cs line begun acc
    else if kindI c = 2 then
      if nextI ((c :: cs).dropWhile (isK 2)) = 3 then ([], line, 2)
      else lexB n ((c :: cs).dropWhile (isK 2)) line true (acc ++ [⟨1, (c :: cs).takeWhile (isK 2), line⟩])
    else if kindI c = 3 then
      if nextI ((c :: cs).dropWhile (isK 3)) = 2 then ([], line, 2)
      else lexB n ((c :: cs).dropWhile (isK 3)) line true (acc ++ [⟨2, (c :: cs).takeWhile (isK 3), line⟩])
    else if kindI c = 4 ∨ kindI c = 5 then
      match (c :: cs).dropWhile notNl with
      | [] => (endOf line begun acc, 0, 0)
      | _ :: r => lexB n r (line + 1) false (endOf line begun acc)
    else ([], line, 2)
def lexF (bs : List Int) : List Tok × Int × Int :=
  if 65536 < bs.length then ([], 0, 4) else lexB (bs.length + 1) bs 1 false []
end Go.Proofs.YtegbfimfpkendaaDoor.LexS
