/- Drawn regions as a graph: three variables. -/
import Derived.Deep.RegionHeld3
import Derived.Test.YtfnmgccbghlbjaaDag
namespace Go.Proofs.Ytfnmgccbghlbjaa
section
variable {P : Program} {ops : Array Oper} {Q : Exit → Act → World → Prop} {md : Region.Mode} {S : World → Prop}
theorem wpAnyH_dag3 {R : Nat → Nat → Nat → World → Prop} {fuel fuel' : Nat} {listed listed' : Array Bool} {a : Act} {a' : Nat → Nat → Nat → Act} {w : World}
    (h : (∀ x y z w, R x y z w → wpAnyH P md ops Q S fuel' listed' (a' x y z) w) → wpAnyH P md ops Q S fuel listed a w) (hD : ∀ x y z w, R x y z w → wpAnyH P md ops Q S fuel' listed' (a' x y z) w) : wpAnyH P md ops Q S fuel listed a w := h hD
end
end Go.Proofs.Ytfnmgccbghlbjaa
