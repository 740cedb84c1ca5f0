/- Cells of blocks that lie behind a memory. -/
import Derived.Test.YtjchcmomppfilaaLaw8
namespace Go.Proofs.Ytjchcmomppfilaa
open Go.RowKit
theorem kset {S : Nat → Prop} {w w' : World} {B : Nat} (hB : w.heap.size = B) (h : Keeps S w w') (p : Addr) (hp : B ≤ p.block) (u : Value) : Keeps S w (w'.setCell p u) := h.setCell (fun hlt => by omega) u
theorem MemT.set {T : TypeId} {w : World} {a : Nat} {v : Value} {M : MemS} (h : MemT T w a v M) {B : Nat} (ha : a < B) (hv : ∀ g, v.ownBlock = some g → g < B) (p : Addr) (hp : B ≤ p.block) (u : Value) : MemT T (w.setCell p u) a v M :=
  h.keep ((Keeps.refl (just p.block) w).setCell (fun _ => rfl) u) (fun e => by have : a = p.block := e; omega) (fun g hg e => by have : g = p.block := e; have := hv g hg; omega)
end Go.Proofs.Ytjchcmomppfilaa
