/- What a record's bytes are: the plain words. -/
import Derived.Test.YtodhkdmkkjhnnaaRecP
set_option linter.unusedVariables false
namespace Go.Proofs.Ytodhkdmkkjhnnaa

/-- A record's bytes without the sum. -/
def recB (r : Rec) : List UInt8 := r.key ++ ((if r.patch then gs 1 64 ++ r.base else gs 0 64) ++ (gs r.body.length 64 ++ r.body))
def packR (r : Rec) : List UInt8 × Nat := if 8192 < r.body.length then ([], 6) else if r.patch = false ∧ r.base ≠ zeros then ([], 1) else (Crc.put (recB r), 0)
def Rec.zero : Rec := ⟨zeros, zeros, false, []⟩
/-- What stands here: the record, how many bytes it has (without the sum), the error. -/
def rdBody (k b : List UInt8) (p : Bool) (l : List UInt8) (n : Nat) : Rec × Nat × Nat :=
  if (rdText l).2.2 ≠ 0 then (Rec.zero, 0, (rdText l).2.2) else if 8192 < (rdText l).1.length then (Rec.zero, 0, 6) else (⟨k, b, p, (rdText l).1⟩, n + (rdText l).2.1, 0)
def rdKind (k : List UInt8) (l : List UInt8) : Rec × Nat × Nat :=
  if (rdCount l).2.2 ≠ 0 then (Rec.zero, 0, (rdCount l).2.2) else if 1 < (rdCount l).1 then (Rec.zero, 0, 3)
  else if (rdCount l).1 = 1 then
    if (l.drop (rdCount l).2.1).length < 32 then (Rec.zero, 0, 2)
    else rdBody k ((l.drop (rdCount l).2.1).take 32) true ((l.drop (rdCount l).2.1).drop 32) (32 + (rdCount l).2.1 + 32)
  else rdBody k zeros false (l.drop (rdCount l).2.1) (32 + (rdCount l).2.1)
def rdRec (l : List UInt8) : Rec × Nat × Nat := if l.length < 32 then (Rec.zero, 0, 2) else rdKind (l.take 32) (l.drop 32)
end Go.Proofs.Ytodhkdmkkjhnnaa
