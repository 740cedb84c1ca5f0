/- Maps from numbers to numbers that a law makes itself, as the walks read and write them. No program in sight. -/
import Derived.Test.YtfnmgccbghlbjaaBase
import Derived.Maps.Own
import Derived.Maps.OwnOps
import Derived.Maps.Views
namespace Go.Proofs.Ytfnmgccbghlbjaa
open Go.Maps
/-- block b is a map of at most n entries, in which k reads as f k -/
def MapI (P : Program) (K E : TypeId) (w : World) (b n : Nat) (f : Int → Int) : Prop :=
  ∃ D : DataW Unit, Maps.IsMap D ∧ w.ownsMap P K (plainElem P E) b n D ∧ ∀ k, (Lit.int .i64 k).wf = true → D.atKey (.int .i64 k) (.lit (.int .i64 0)) = .lit (.int .i64 (f k))
theorem grown_of_keeps {w w' : World} (h : Keeps NoS w w') : w.grownBy w' none := ⟨h.os, h.tape, h.output, h.size, fun k hk _ => h.block k hk (fun f => f)⟩
theorem MapI.keep {P : Program} {K E : TypeId} {w w' : World} {b n : Nat} {f : Int → Int} (h : MapI P K E w b n f) (k : Keeps NoS w w') : MapI P K E w' b n f := by
  obtain ⟨D, h1, h2, h3⟩ := h
  exact ⟨D, h1, h2.kept (grown_of_keeps k) (by simp), h3⟩
theorem MapI.made (P : Program) (K E : TypeId) (w : World) : MapI P K E (w.alloc (.map #[] 0)) w.heap.size 0 (fun _ => 0) :=
  ⟨.map [], Maps.isMap_empty, World.ownsMap_made _ _ _ _, fun k _ => rfl⟩
theorem MapI.lt {P : Program} {K E : TypeId} {w : World} {b n : Nat} {f : Int → Int} (h : MapI P K E w b n f) : b < w.heap.size := by
  obtain ⟨D, _, h2, _⟩ := h; exact h2.lt
theorem MapI.look {P : Program} {K E T : TypeId} {w : World} {b n : Nat} {f : Int → Int} (h : MapI P K E w b n f) (hk : P.underlying K = some (.int .i64)) (he : P.underlying E = some (.int .i64)) (ht : P.underlying T = some (.map K E))
    (hz : (zeroValue E).run P w = .ok (.int .i64 0) w) (k : Int) (hwf : (Lit.int .i64 k).wf = true) : (Instr.lookup T (.map (some b)) (.int .i64 k) false).run P w = .ok (.int .i64 (f k)) w := by
  obtain ⟨D, _, h2, h3⟩ := h
  obtain ⟨c, hrun, hat, _⟩ := h2.lookup_int (int_keyed hk) ht he hz (keyOf_int_mk hk hwf)
  rw [h3 k hwf] at hat
  simp only [DataW.lit.injEq, Lit.int.injEq, true_and] at hat
  rw [hrun, hat]
theorem wpList_put_mapI {P : Program} (w : World) {ops : Array Oper} {rest : List Oper} {o : Oper} {a : Act} {Q : Exit → Act → World → Prop}
    (hg : o.guard = none) (m x v : Operand) (T : TypeId) (hop : o.op = Op.mapUpdate T m x v) (K E : TypeId) (hk : P.underlying K = some (.int .i64)) (he : P.underlying E = some (.int .i64)) (ht : P.underlying T = some (.map K E))
    (b n : Nat) (f : Int → Int) (hm : a.eval m = .map (some b)) (h : MapI P K E w b n f) (hn : n < maxLen) (k y : Int) (hx : a.eval x = .int .i64 k) (hv : a.eval v = .int .i64 y) (hwf : (Lit.int .i64 k).wf = true) (hwy : (Lit.int .i64 y).wf = true)
    (hK : ∀ w', MapI P K E w' b (n + 1) (fun j => if j = k then y else f j) → w.grownBy w' (some b) → wpList P ops Q rest (a.put o.dst undef) w') : wpList P ops Q (o :: rest) a w := by
  obtain ⟨D, h1, h2, h3⟩ := h
  refine wpList_mapUpdate_own w hg m x v T hop K E (int_keyed hk) ht (plainElem P E) b n D hm h2 hn (.int .i64 k) (.int .i64 y) (.int .i64 k) hx hv (keyOf_int_mk hk hwf) (.lit (.int .i64 y)) [] (plainElem_int he hwy) (fun w' ho hgr => hK w' ⟨D.put (.int .i64 k) (.lit (.int .i64 y)), h1.put _ _, ho, fun j hj => ?_⟩ hgr)
  by_cases e : j = k
  · subst e
    rw [atKey_put_same h1 ((int_keyed hk).key (keyOf_int_mk hk hwf))]
    show _ = DataW.lit (Lit.int .i64 (if j = j then y else f j))
    rw [if_pos rfl]
  · rw [atKey_put_other (by simpa using e)]
    show _ = DataW.lit (Lit.int .i64 (if j = k then y else f j))
    rw [if_neg e]
    exact h3 j hj
end Go.Proofs.Ytfnmgccbghlbjaa
