/- The contract of the document's 'one', in the form of the printed ones. -/
import Derived.Test.YtefdcjmfbjlinaaDoorRefone
namespace Go.Proofs.YtefdcjmfbjlinaaDoor.A
open Go.RowKit

def tk0 (a : Nat) (l : List UInt8) : Sc.Tk := if (Sc.tkOf a l).kind = 0 then ⟨0, 0, [], 0⟩ else Sc.tkOf a l
def cadencyref03_one.f (a0 : ByteArray) (a1 : Int) : Option (Int × Int × ByteArray × Int) :=
  if a0.size ≤ 9223372036854775807 ∧ 0 ≤ a1 ∧ a1 < (a0.size : Int) then some (((tk0 a1.toNat (a0.data.toList.drop a1.toNat)).kind : Nat), ((tk0 a1.toNat (a0.data.toList.drop a1.toNat)).at_ : Nat), ⟨(tk0 a1.toNat (a0.data.toList.drop a1.toNat)).text.toArray⟩, ((tk0 a1.toNat (a0.data.toList.drop a1.toNat)).num : Nat)) else none
end Go.Proofs.YtefdcjmfbjlinaaDoor.A
