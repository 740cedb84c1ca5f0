/- What comes in: a slice of bools, opened. -/
import Derived.Test.YtlcmnhfiggkmnaaGreatIn2
import Derived.Deep.Grids
namespace Go.Proofs.YtlcmnhfiggkmnaaGreat
open Go.ChangeShapes Go.WideShapes Go.ChangeAt Go.RowKit Go.Deep
structure NBools where
  len : Nat
  F : Nat → Bool
/-- a slice of bools that came in -/
def InBo (w : World) (v : Value) (L : NBools) : Prop :=
  ∃ p cap, v = .slice p L.len cap ∧ L.len ≤ 9223372036854775807 ∧ (0 < L.len → ∃ b off, p = some ⟨b, off, none⟩ ∧ ∀ k, k < L.len → w.cell? ⟨b, off + k, none⟩ = some (.bool (L.F k)))
section
variable {H : Type} {enc : TypeId × Value → H} {P : Program} {w : World} {base : Nat} {held : Bool}
theorem inBo_of {t e : TypeId} {fuel : Nat} {v : Value} {x : DataW H × List MemPlace} (ht : P.underlying t = some (.slice e)) (he : P.underlying e = some .bool) (hc : P.cellsOf e = 1) (h : DataW.trod enc P w base (fun _ => true) held fuel t [v] = some x) :
    ∃ L, InBo w v L := by
  rcases open_bools ht he hc h with ⟨hcs, _⟩ | ⟨a, len, cap, B, hcs, hb, hl, hm, hx, hcell⟩
  · simp only [List.cons.injEq, and_true] at hcs
    subst hcs
    exact ⟨⟨0, fun _ => false⟩, none, 0, rfl, by decide, fun h => absurd h (by decide)⟩
  · simp only [List.cons.injEq, and_true] at hcs
    subst hcs
    refine ⟨⟨len, B⟩, some a, cap, rfl, by unfold maxLen at hm; show len ≤ _; omega, fun h0 => ?_⟩
    have h0' : 0 < len := h0
    have hp := plain_of (hcell 0 (by omega))
    have hz : a.add 0 = a := by simp [Addr.add]
    rw [hz] at hp
    refine ⟨a.block, a.off, by rw [← hp], fun k hk => ?_⟩
    have hk' : k < len := hk
    have := hcell k (by omega)
    rw [hp] at this
    show w.cell? ⟨a.block, a.off + k, none⟩ = some (.bool (B k))
    rw [← this]
    congr 1
    all_goals first | rfl | (simp [Addr.add]; omega) | simp [Addr.add]
end
end Go.Proofs.YtlcmnhfiggkmnaaGreat
