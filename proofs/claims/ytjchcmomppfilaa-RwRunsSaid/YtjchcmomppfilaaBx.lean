/- The three boxes of a step: the map, the hand, what is handed back. -/
import Derived.Test.YtjchcmomppfilaaBox
namespace Go.Proofs.Ytjchcmomppfilaa
open Go.RowKit
/-- three boxes -/
theorem start3 (w : World) (ms ml mt mc md t l s : Int) (r : Bool) (x : Int) (T U : TypeId) : ∃ W, W = (((w.alloc (.cells #[.int .i64 ms, .int .i64 ml, .int .i64 mt, .int .i64 mc, .int .i64 md] T)).alloc (.cells #[.int .i64 t, .int .i64 l, .int .i64 s, .bool r, .int .i64 x] U)).alloc (.cells #[.int .i64 0, .int .i64 0, .int .i64 0, .bool false, .int .i64 0] U)) ∧
    MapAt W w.heap.size ms ml mt mc md ∧ HandAt W U (w.heap.size + 1) t l s r x ∧ HandAt W U (w.heap.size + 2) 0 0 0 false 0 ∧ Keeps NoS w W := by
  refine ⟨_, rfl, ?_, ?_, ?_, (((Keeps.refl NoS w).alloc _).alloc _).alloc _⟩
  · have h := mapAt_new w ms ml mt mc md T
    exact (h.keep ((Keeps.refl NoS _).alloc _) (fun f => f)).keep ((Keeps.refl NoS _).alloc _) (fun f => f)
  · have h := handAt_new (w.alloc (.cells #[.int .i64 ms, .int .i64 ml, .int .i64 mt, .int .i64 mc, .int .i64 md] T)) U t l s r x
    have h' := h.keep ((Keeps.refl NoS _).alloc (.cells #[.int .i64 0, .int .i64 0, .int .i64 0, .bool false, .int .i64 0] U)) (fun f => f)
    simpa using h'
  · have h := handAt_new ((w.alloc (.cells #[.int .i64 ms, .int .i64 ml, .int .i64 mt, .int .i64 mc, .int .i64 md] T)).alloc (.cells #[.int .i64 t, .int .i64 l, .int .i64 s, .bool r, .int .i64 x] U)) U 0 0 0 false 0
    simpa using h
/-- the three boxes of a step: the map, the hand, what is handed back -/
def Bx (B : Nat) (ms ml mt mc md t l s : Int) (r : Bool) (x : Int) (w1 : World) : Prop := MapAt w1 B ms ml mt mc md ∧ HandAt w1 37 (B + 1) t l s r x ∧ HandAt w1 37 (B + 2) 0 0 0 false 0
theorem Bx.no {B : Nat} {ms ml mt mc md t l s : Int} {r : Bool} {x : Int} {w w' : World} (h : Bx B ms ml mt mc md t l s r x w) (k : Keeps NoS w w') : Bx B ms ml mt mc md t l s r x w' :=
  ⟨h.1.keep k (fun f => f), h.2.1.keep k (fun f => f), h.2.2.keep k (fun f => f)⟩
theorem Bx.own {B a : Nat} {v : Value} {ms ml mt mc md t l s : Int} {r : Bool} {x : Int} {w w' : World} (h : Bx B ms ml mt mc md t l s r x w) (k : Keeps (own2m a v) w w') (ha : a < B) (hv : ∀ g, v.ownBlock = some g → g < B) : Bx B ms ml mt mc md t l s r x w' :=
  ⟨h.1.keep k (not_own (by omega) (fun e => by have := hv _ e; omega)), h.2.1.keep k (not_own (by omega) (fun e => by have := hv _ e; omega)), h.2.2.keep k (not_own (by omega) (fun e => by have := hv _ e; omega))⟩
theorem Bx.facts {B : Nat} {ms ml mt mc md t l s : Int} {r : Bool} {x : Int} {w : World} (h : Bx B ms ml mt mc md t l s r x w) :
    (w.cell? ⟨B, 0, none⟩ = some (.int .i64 ms) ∧ w.cell? ⟨B, 1, none⟩ = some (.int .i64 ml) ∧ w.cell? ⟨B, 2, none⟩ = some (.int .i64 mt) ∧ w.cell? ⟨B, 3, none⟩ = some (.int .i64 mc) ∧ w.cell? ⟨B, 4, none⟩ = some (.int .i64 md)) ∧
    (w.cell? ⟨B + 1, 0, none⟩ = some (.int .i64 t) ∧ w.cell? ⟨B + 1, 1, none⟩ = some (.int .i64 l) ∧ w.cell? ⟨B + 1, 2, none⟩ = some (.int .i64 s) ∧ w.cell? ⟨B + 1, 3, none⟩ = some (.bool r) ∧ w.cell? ⟨B + 1, 4, none⟩ = some (.int .i64 x)) ∧
    (w.cell? ⟨B + 2, 0, none⟩ = some (.int .i64 0) ∧ w.cell? ⟨B + 2, 1, none⟩ = some (.int .i64 0) ∧ w.cell? ⟨B + 2, 2, none⟩ = some (.int .i64 0) ∧ w.cell? ⟨B + 2, 3, none⟩ = some (.bool false) ∧ w.cell? ⟨B + 2, 4, none⟩ = some (.int .i64 0)) ∧
    (w.frozen? ⟨B + 1, 0, none⟩ = false ∧ w.frozen? ⟨B + 1, 1, none⟩ = false ∧ w.frozen? ⟨B + 1, 2, none⟩ = false ∧ w.frozen? ⟨B + 1, 3, none⟩ = false ∧ w.frozen? ⟨B + 1, 4, none⟩ = false) ∧
    (w.frozen? ⟨B + 2, 0, none⟩ = false ∧ w.frozen? ⟨B + 2, 1, none⟩ = false ∧ w.frozen? ⟨B + 2, 2, none⟩ = false ∧ w.frozen? ⟨B + 2, 3, none⟩ = false ∧ w.frozen? ⟨B + 2, 4, none⟩ = false) ∧ B + 1 < w.heap.size ∧ B + 2 < w.heap.size := by
  obtain ⟨hm, hh, hr⟩ := h
  obtain ⟨c0, c1, c2, c3, c4, f0, f1, f2, f3, f4, fz⟩ := hh.cells
  obtain ⟨r0, r1, r2, r3, r4, g0, g1, g2, g3, g4, gz⟩ := hr.cells
  exact ⟨hm, ⟨c0, c1, c2, c3, c4⟩, ⟨r0, r1, r2, r3, r4⟩, ⟨f0, f1, f2, f3, f4⟩, ⟨g0, g1, g2, g3, g4⟩, fz, gz⟩
theorem bx_new (w : World) (ms ml mt mc md t l s : Int) (r : Bool) (x : Int) (T : TypeId) : Bx w.heap.size ms ml mt mc md t l s r x (((w.alloc (.cells #[.int .i64 ms, .int .i64 ml, .int .i64 mt, .int .i64 mc, .int .i64 md] T)).alloc (.cells #[.int .i64 t, .int .i64 l, .int .i64 s, .bool r, .int .i64 x] 37)).alloc (.cells #[.int .i64 0, .int .i64 0, .int .i64 0, .bool false, .int .i64 0] 37)) := by
  obtain ⟨W, hW, h1, h2, h3, _⟩ := start3 w ms ml mt mc md t l s r x T 37
  rw [← hW]; exact ⟨h1, h2, h3⟩
end Go.Proofs.Ytjchcmomppfilaa
