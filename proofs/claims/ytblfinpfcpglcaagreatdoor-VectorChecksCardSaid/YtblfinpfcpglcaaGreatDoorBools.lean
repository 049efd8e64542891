/- What a function that returns a Boolean says. -/
import Derived.Test.YtblfinpfcpglcaaGreatDoorPts
namespace Go.Proofs.YtblfinpfcpglcaaGreatDoor
open Go.RowKit MLab

/-- The Boolean that says whether P. -/
def BoolR (P : Prop) (e : Ending) : Prop := ∃ b : Bool, e = .returned (.bool b) ∧ (b = true → P) ∧ (P → b = true)
/-- What a function with a Boolean and an error number returns: whether P. -/
def PairR (P : Prop) (n : Int) (e : Ending) : Prop := ∃ b : Bool, e = .returned (.tuple #[.bool b, .int .i64 n]) ∧ (b = true → P) ∧ (P → b = true)
end Go.Proofs.YtblfinpfcpglcaaGreatDoor
