/- grammar: Span's units, plainly. -/
import Derived.Test.YtkhpdiilghncgaaGreatDoorSa
namespace Go.Proofs.YtkhpdiilghncgaaGreatDoor
set_option linter.unusedVariables false

/-- A letter made great. -/
def up (c : Nat) : Nat := c &&& 223
/-- A duration's fields as they are read. -/
def setD (d : Nat → Int) (k : Nat) (v : Int) : Nat → Int := fun i => if i = k then v else d i
/-- A fraction, where one may stand. -/
def fracF (s : ByteArray) (three : Bool) (i : Nat) : Option (Int × Nat) :=
  if three then (part s i).map fun r => (partN r.1, r.2) else some (-1, i)
structure Un where
  had : Int
  part : Int
  room : Bool
  d : Nat → Int
def unitsF (s ls all : ByteArray) (three : Bool) (base : Nat) : Nat → Nat → Un → Option (Un × Nat)
  | 0, _, _ => none
  | f + 1, i, u =>
    if dg s i && decide (u.part < 0) then
      match fracF s three (countFrom s (s.size + 1) i 0 true).2 with
      | none => none
      | some (p, k) =>
        if isOne s k all then
          if ixb ls (up (nx s k)) ≤ u.had then none
          else unitsF s ls all three base f (k + 1) ⟨ixb ls (up (nx s k)), p, u.room && (countFrom s (s.size + 1) i 0 true).1.2, setD u.d (base + (ixb ls (up (nx s k))).toNat) (countFrom s (s.size + 1) i 0 true).1.1⟩
        else none
    else some (u, i)
end Go.Proofs.YtkhpdiilghncgaaGreatDoor
