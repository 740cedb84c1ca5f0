/- A map from numbers to numbers that a law makes itself, read with 'is it there?'. -/
import Derived.Test.YtfnmgccbghlbjaaMapI
import Derived.Maps.OwnSet
import Derived.RegionTactic
namespace Go.Proofs.Ytfnmgccbghlbjaa
open Go.Maps
/-- block b is a map of at most n entries, in which k reads as f k -/
def MapO (P : Program) (K E : TypeId) (w : World) (b n : Nat) (f : Int → Option Int) : Prop :=
  ∃ D : DataW Unit, Maps.IsMap D ∧ w.ownsMap P K (plainElem P E) b n D ∧ ∀ k, (Lit.int .i64 k).wf = true → D.atKey (.int .i64 k) (.lit (.int .i64 0)) = .lit (.int .i64 ((f k).getD 0)) ∧ Maps.has D (.int .i64 k) = (f k).isSome
theorem MapO.keep {P : Program} {K E : TypeId} {w w' : World} {b n : Nat} {f : Int → Option Int} (h : MapO P K E w b n f) (k : Keeps NoS w w') : MapO P K E w' b n f := by
  obtain ⟨D, h1, h2, h3⟩ := h
  exact ⟨D, h1, h2.kept (grown_of_keeps k) (by simp), h3⟩
theorem MapO.keepS {S : Nat → Prop} {P : Program} {K E : TypeId} {w w' : World} {b n : Nat} {f : Int → Option Int} (h : MapO P K E w b n f) (k : Keeps S w w') (hS : ¬ S b) : MapO P K E w' b n f := by
  obtain ⟨D, h1, h2, h3⟩ := h
  obtain ⟨es, clock, hb, F, hs, hD⟩ := h2
  exact ⟨D, h1, ⟨es, clock, (k.block b (World.ownsMap.lt (R := plainElem P E) ⟨es, clock, hb, F, hs, hD⟩) hS).trans hb, F, hs, hD⟩, h3⟩
theorem MapO.made (P : Program) (K E : TypeId) (w : World) : MapO P K E (w.alloc (.map #[] 0)) w.heap.size 0 (fun _ => none) :=
  ⟨.map [], Maps.isMap_empty, World.ownsMap_made _ _ _ _, fun k _ => ⟨rfl, rfl⟩⟩
theorem MapO.lt {P : Program} {K E : TypeId} {w : World} {b n : Nat} {f : Int → Option Int} (h : MapO P K E w b n f) : b < w.heap.size := by
  obtain ⟨D, _, h2, _⟩ := h; exact h2.lt
theorem MapO.put {P : Program} {K E T : TypeId} {w : World} {b n : Nat} {f : Int → Option Int} (h : MapO P K E w b n f) (hk : P.underlying K = some (.int .i64)) (he : P.underlying E = some (.int .i64)) (ht : P.underlying T = some (.map K E)) (hn : n < maxLen) (k y : Int)
    (hwf : (Lit.int .i64 k).wf = true) (hwy : (Lit.int .i64 y).wf = true) : ∃ w', (Instr.mapUpdate T (.map (some b)) (.int .i64 k) (.int .i64 y)).run P w = .ok () w' ∧ MapO P K E w' b (n + 1) (fun j => if j = k then some y else f j) ∧ w.grownBy w' (some b) := by
  obtain ⟨D, h1, h2, h3⟩ := h
  obtain ⟨w', hr, ho, hg⟩ := h2.update (int_keyed hk) ht hn (keyOf_int_mk hk hwf) (plainElem_int he hwy)
  refine ⟨w', hr, ⟨D.put (.int .i64 k) (.lit (.int .i64 y)), h1.put _ _, ho, fun j hj => ?_⟩, hg⟩
  by_cases e : j = k
  · subst e
    rw [atKey_put_same h1 ((int_keyed hk).key (keyOf_int_mk hk hwf)), has_put_same h1 ((int_keyed hk).key (keyOf_int_mk hk hwf))]
    simp
  · rw [atKey_put_other (by simpa using e), has_put_other (by simpa using e)]
    show _ = DataW.lit (Lit.int .i64 ((if j = k then some y else f j).getD 0)) ∧ _ = (if j = k then some y else f j).isSome
    rw [if_neg e]
    exact h3 j hj
/-- at a step of a region that draws its order -/
theorem step_put_mapO {P : Program} (w : World) {ops : Array Oper} {o : Oper} {a : Act} {K : Act → World → Prop} {Q : Exit → Act → World → Prop} {E : Prop} (hgd : Region.wanted o (yielded ops a.tmps) = true) (m x v : Operand) (T : TypeId)
    (hop : o.op = Op.mapUpdate T m x v) (KT ET : TypeId) (hk : P.underlying KT = some (.int .i64)) (he : P.underlying ET = some (.int .i64)) (ht : P.underlying T = some (.map KT ET))
    (b n : Nat) (f : Int → Option Int) (hm : a.eval m = .map (some b)) (h : MapO P KT ET w b n f) (hn : n < maxLen) (k y : Int) (hx : a.eval x = .int .i64 k) (hv : a.eval v = .int .i64 y) (hwf : (Lit.int .i64 k).wf = true) (hwy : (Lit.int .i64 y).wf = true)
    (hK : ∀ w', MapO P KT ET w' b (n + 1) (fun j => if j = k then some y else f j) → w.grownBy w' (some b) → K (a.put o.dst undef) w') :
    if Region.wanted o (yielded ops a.tmps) = true then Oper.wp P o a w K Q else E := by
  rw [if_pos hgd]
  obtain ⟨w', hr, h2, h3⟩ := h.put hk he ht hn k y hwf hwy
  unfold Oper.wp execOp
  simp only [hop, Sem.run_bind, Sem.run_pure, Result.andThen_ok, hm, hx, hv, hr]
  exact hK _ h2 h3
/-- v, ok := m[k] -/
theorem wpList_look_mapO {P : Program} (w : World) {ops : Array Oper} {rest : List Oper} {o : Oper} {a : Act} {Q : Exit → Act → World → Prop} (hg : o.guard = none) (m x : Operand) (t : TypeId) (hop : o.op = Op.lookup t m x true)
    (k e : TypeId) (hk : P.underlying k = some (.int .i64)) (he : P.underlying e = some (.int .i64)) (ht : P.underlying t = some (.map k e)) (hz : (zeroValue e).run P w = .ok (.int .i64 0) w) (b n : Nat) (f : Int → Option Int)
    (hm : a.eval m = .map (some b)) (h : MapO P k e w b n f) (z : Int) (hx : a.eval x = .int .i64 z) (hwf : (Lit.int .i64 z).wf = true)
    (hK : wpList P ops Q rest (a.put o.dst (.tuple #[.int .i64 ((f z).getD 0), .bool (f z).isSome])) w) :
    wpList P ops Q (o :: rest) a w := by
  obtain ⟨D, h1, h2, h3⟩ := h
  refine wpList_lookup_own_ok_int w hg m x t hop k e .i64 (int_keyed hk) ht he hz b n D hm h2 (.int .i64 z) (.int .i64 z) hx (keyOf_int_mk hk hwf) ?_
  intro c hat hwc
  obtain ⟨ha, hh⟩ := h3 z hwf
  rw [ha] at hat
  simp only [DataW.lit.injEq, Lit.int.injEq, true_and] at hat
  rw [hh, ← hat]
  exact hK
end Go.Proofs.Ytfnmgccbghlbjaa
