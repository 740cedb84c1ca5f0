/- A region whose operations may come up in several orders, walked as a graph: each set of operations that are done is met once. -/
import Derived.Deep.RegionHeld3
namespace Go.Proofs.Ytfmamedkiaimpaa
section
variable {P : Program} {ops : Array Oper} {Q : Exit → Act → World → Prop} {md : Region.Mode} {S : World → Prop}
theorem wpAnyH_dag0 {R : World → Prop} {fuel fuel' : Nat} {listed listed' : Array Bool} {a a' : Act} {w : World}
    (h : (∀ w, R w → wpAnyH P md ops Q S fuel' listed' a' w) → wpAnyH P md ops Q S fuel listed a w) (hD : ∀ w, R w → wpAnyH P md ops Q S fuel' listed' a' w) : wpAnyH P md ops Q S fuel listed a w := h hD
theorem wpAnyH_dag1 {R : Nat → World → Prop} {fuel fuel' : Nat} {listed listed' : Array Bool} {a : Act} {a' : Nat → Act} {w : World}
    (h : (∀ x w, R x w → wpAnyH P md ops Q S fuel' listed' (a' x) w) → wpAnyH P md ops Q S fuel listed a w) (hD : ∀ x w, R x w → wpAnyH P md ops Q S fuel' listed' (a' x) w) : wpAnyH P md ops Q S fuel listed a w := h hD
theorem wpAnyH_dag2 {R : Nat → Nat → World → Prop} {fuel fuel' : Nat} {listed listed' : Array Bool} {a : Act} {a' : Nat → Nat → Act} {w : World}
    (h : (∀ x y w, R x y w → wpAnyH P md ops Q S fuel' listed' (a' x y) w) → wpAnyH P md ops Q S fuel listed a w) (hD : ∀ x y w, R x y w → wpAnyH P md ops Q S fuel' listed' (a' x y) w) : wpAnyH P md ops Q S fuel listed a w := h hD
end
end Go.Proofs.Ytfmamedkiaimpaa
namespace Go.Proofs.Ytfmamedkiaimpaa
section
variable {P : Program} {ops : Array Oper} {Q : Exit → Act → World → Prop} {md : Region.Mode} {S : World → Prop}
theorem wpAnyH_dag3 {R : Nat → Nat → Nat → World → Prop} {fuel fuel' : Nat} {listed listed' : Array Bool} {a : Act} {a' : Nat → Nat → Nat → Act} {w : World}
    (h : (∀ x y z w, R x y z w → wpAnyH P md ops Q S fuel' listed' (a' x y z) w) → wpAnyH P md ops Q S fuel listed a w) (hD : ∀ x y z w, R x y z w → wpAnyH P md ops Q S fuel' listed' (a' x y z) w) : wpAnyH P md ops Q S fuel listed a w := h hD
end
end Go.Proofs.Ytfmamedkiaimpaa
