/- What comes in: slices of structs of n numbers, arrays and structs of numbers by value. No program in sight. -/
import Derived.Test.YtldleacoajlinaaIn
namespace Go.Proofs.Ytldleacoajlinaa
open Go.ChangeShapes Go.WideShapes Go.ChangeAt Go.RowKit Go.Deep
/-- rows of numbers -/
structure NRows where
  len : Nat
  F : Nat → Nat → Int
/-- A slice of structs, each of m numbers, that came in. -/
def InN (m : Nat) (w : World) (v : Value) (L : NRows) : Prop :=
  ∃ p cap, v = .slice p L.len cap ∧ L.len ≤ 9223372036854775807 ∧ (0 < L.len → ∃ b off, p = some ⟨b, off, none⟩ ∧
    ∀ k, k < L.len → ∀ j, j < m → w.cell? ⟨b, off + k * m + j, none⟩ = some (.int .i64 (L.F k j)) ∧ (Lit.int .i64 (L.F k j)).wf = true)
theorem Keeps.inN {m : Nat} {w w' : World} {v : Value} {L : NRows} (k : Keeps NoS w w') (h : InN m w v L) : InN m w' v L := by
  obtain ⟨p, cap, hv, hm, hc⟩ := h
  refine ⟨p, cap, hv, hm, fun hne => ?_⟩
  obtain ⟨b, off, hb, hcell⟩ := hc hne
  exact ⟨b, off, hb, fun i hi j hj => ⟨k.cell (hcell i hi j hj).1 (fun f => f), (hcell i hi j hj).2⟩⟩
section
variable {H : Type} {enc : TypeId × Value → H} {P : Program} {w : World} {base : Nat} {spare : Nat → Bool} {held : Bool}
theorem inN_of {m : Nat} (hm0 : 0 < m) {t e : TypeId} {fs : Array Field} {fuel : Nat} {v : Value} {x : DataW H × List MemPlace} (ht : P.underlying t = some (.slice e)) (he : P.underlying e = some (.struct fs)) (hn : P.cellsOf e = m) (hsz : fs.size = m)
    (hf : ∀ j, j < m → ∃ f, fs[j]? = some f ∧ f.offset = j ∧ P.underlying f.type = some (.int .i64) ∧ P.cellsOf f.type = 1) (h : DataW.trod enc P w base spare held fuel t [v] = some x) :
    ∃ L, InN m w v L := by
  rcases open_structs ht he hn hsz hf h with hc | ⟨a, len, cap, F, hc, hl, hm, hF⟩
  · simp only [List.cons.injEq, and_true] at hc
    subst hc
    exact ⟨⟨0, fun _ _ => 0⟩, none, 0, rfl, by decide, fun h => absurd h (by decide)⟩
  · simp only [List.cons.injEq, and_true] at hc
    subst hc
    refine ⟨⟨len, F⟩, some a, cap, rfl, by unfold maxLen at hm; show len ≤ _; omega, fun hne => ?_⟩
    have hp := plain_of ((hF 0 hne 0 hm0).1)
    have hz : a.add (0 * m + 0) = a := by simp [Addr.add]
    rw [hz] at hp
    refine ⟨a.block, a.off, by rw [← hp], fun k hk j hj => ?_⟩
    have g := hF k hk j hj
    rw [hp, Go.WideShapes.add_plain, ← Nat.add_assoc] at g
    exact g
end
end Go.Proofs.Ytldleacoajlinaa
