/- Plain: assignment (V6). -/
import Derived.Test.YtopkcgdfebkbaaaGreatDoorPure
namespace Go.Proofs.YtopkcgdfebkbaaaGreatDoor

def nameC (c : UInt8) : Bool := (decide (65 ≤ c) && decide (c ≤ 90)) || (decide (97 ≤ c) && decide (c ≤ 122)) || (decide (48 ≤ c) && decide (c ≤ 57)) || c == 95 || c == 45 || c == 46
def nameB (s : Bytes) : Bool := s.all nameC && (s != [] && decide (s.length ≤ 40))

def mapE {α β : Type} (f : α → β) : Except Nat α → Except Nat β
  | .ok a => .ok (f a)
  | .error e => .error e

/-- Assign: the variables behind it, or what is wrong. -/
def assignB (cf : CallF) (v : List Var) (name op s : Bytes) : Option (Except Nat (List Var)) :=
  if nameB name = true then
    if op = [61] then some (.ok (insV ⟨name, s, false⟩ v))
    else if op = [58, 61] then (expandB cf v s).map (mapE fun t => insV ⟨name, t, true⟩ v)
    else if op = [63, 61] then some (.ok (if (getV v name).isSome = true then v else insV ⟨name, s, false⟩ v))
    else if op = [43, 61] then
      match getV v name with
      | none => some (.ok (insV ⟨name, s, false⟩ v))
      | some old =>
        if old.simple = true then (expandB cf v s).map (mapE fun t => insV ⟨name, old.text ++ 32 :: t, true⟩ v)
        else some (.ok (insV ⟨name, old.text ++ 32 :: s, false⟩ v))
    else some (.error 1)
  else some (.error 1)
end Go.Proofs.YtopkcgdfebkbaaaGreatDoor
