/- Two memories alike, two rows of hands alike, who is on its way out: what the Runs laws have at hand. -/
import Derived.Test.YtjchcmomppfilaaOne
namespace Go.Proofs.Ytjchcmomppfilaa
open Go.RowKit
/-- a row of four bools -/
def BoolsAt (w : World) (O : Nat) (o : Nat → Bool) : Prop := ∃ (cs : Array Value) (T : TypeId), w.heap[O]? = some (.cells cs T (0, 0)) ∧ cs.size = 4 ∧ ∀ t, t < 4 → cs[t]? = some (.bool (o t))
section
variable {w w' : World} {O : Nat} {o : Nat → Bool} {S : Nat → Prop}
theorem BoolsAt.keep (h : BoolsAt w O o) (k : Keeps S w w') (hO : ¬ S O) : BoolsAt w' O o := by
  obtain ⟨cs, T, h1, h2, h3⟩ := h
  exact ⟨cs, T, k.blk h1 hO, h2, h3⟩
theorem BoolsAt.cell (h : BoolsAt w O o) {t : Nat} (ht : t < 4) : w.cell? ⟨O, t, none⟩ = some (.bool (o t)) := by
  obtain ⟨cs, T, h1, h2, h3⟩ := h
  rw [blk_cell h1, h3 t ht]
theorem BoolsAt.free (h : BoolsAt w O o) (j : Nat) : w.frozen? ⟨O, j, none⟩ = false := by
  obtain ⟨cs, T, h1, h2, h3⟩ := h
  exact blk_free h1 j
theorem BoolsAt.lt (h : BoolsAt w O o) : O < w.heap.size := by
  obtain ⟨cs, T, h1, h2, h3⟩ := h
  exact blk_lt h1
def bput (o : Nat → Bool) (t : Nat) (q : Bool) : Nat → Bool := fun k => if k = t then q else o k
theorem BoolsAt.set (h : BoolsAt w O o) {t : Nat} (ht : t < 4) (q : Bool) : BoolsAt (w.setCell ⟨O, t, none⟩ (.bool q)) O (bput o t q) := by
  obtain ⟨cs, T, h1, h2, h3⟩ := h
  refine ⟨_, T, blk_set h1 t (.bool q), by simpa using h2, fun k hk => ?_⟩
  unfold bput
  rw [Array.getElem?_setIfInBounds]
  by_cases e : t = k
  · subst e; simp [h2, hk]
  · rw [if_neg e, if_neg (Ne.symm e)]; exact h3 k hk
theorem boolsAt_new (w : World) (T : TypeId) : BoolsAt (w.alloc (.cells #[.bool false, .bool false, .bool false, .bool false] T)) w.heap.size (fun _ => false) := by
  refine ⟨_, T, heap_alloc_new _ _, rfl, fun t ht => ?_⟩
  match t, ht with
  | 0, _ => rfl
  | 1, _ => rfl
  | 2, _ => rfl
  | 3, _ => rfl
end
/-- all that a Runs law has at hand: the memories, the rows, who is on its way out -/
structure RnS (W w : World) (a c : Nat) (v u : Value) (M : MemS) (G : Nat) (f : Nat → HandS) (o : Nat → Bool) : Prop where
  r : RunS W w a c v u M G f
  b : BoolsAt w (G + 1 + 1) o
theorem RnS.no {W w w' : World} {a c : Nat} {v u : Value} {M : MemS} {G : Nat} {f : Nat → HandS} {o : Nat → Bool} (h : RnS W w a c v u M G f o) (k : Keeps NoS w w') : RnS W w' a c v u M G f o := ⟨h.r.keep k, h.b.keep k (fun f => f)⟩
theorem RunS.far {W w w' : World} {a c : Nat} {v u : Value} {M : MemS} {G : Nat} {f : Nat → HandS} (h : RunS W w a c v u M G f) (hA : Apart W G a c v u) {g : Nat} (hg : G + 1 < g) (k : Keeps (just g) w w') : RunS W w' a c v u M G f :=
  ⟨h.t.keepS hA k (fun i hi => by have e : i = g := hi; omega), h.x.keep k (fun e => by have e' : G = g := e; omega), h.y.keep k (fun e => by have e' : G + 1 = g := e; omega)⟩
theorem keeps_cell (w : World) (g j : Nat) (x : Value) : Keeps (just g) w (w.setCell ⟨g, j, none⟩ x) := (Keeps.refl (just g) w).setCell (p := ⟨g, j, none⟩) (fun _ => rfl) x
theorem RnS.out {W w : World} {a c : Nat} {v u : Value} {M : MemS} {G : Nat} {f : Nat → HandS} {o : Nat → Bool} (h : RnS W w a c v u M G f o) (hA : Apart W G a c v u) {t : Nat} (ht : t < 4) (q : Bool) : RnS W (w.setCell ⟨G + 1 + 1, t, none⟩ (.bool q)) a c v u M G f (bput o t q) :=
  ⟨h.r.far hA (by omega) (keeps_cell w (G + 1 + 1) t (.bool q)), h.b.set ht q⟩
theorem keeps_setH (w : World) (g t : Nat) (x : HandS) : Keeps (just g) w (setH w g t x) :=
  (((((Keeps.refl (just g) w).setCell (p := ⟨g, _, none⟩) (fun _ => rfl) _).setCell (p := ⟨g, _, none⟩) (fun _ => rfl) _).setCell (p := ⟨g, _, none⟩) (fun _ => rfl) _).setCell (p := ⟨g, _, none⟩) (fun _ => rfl) _).setCell (p := ⟨g, _, none⟩) (fun _ => rfl) _
theorem RnS.put {W w : World} {a c : Nat} {v u : Value} {M : MemS} {G : Nat} {f : Nat → HandS} {o : Nat → Bool} (h : RnS W w a c v u M G f o) (hA : Apart W G a c v u) (t : Nat) (ht : t < 4) (x : HandS) : RnS W (setH (setH w G t x) (G + 1) t x) a c v u M G (hput f t x) o :=
  ⟨h.r.put hA t ht x, (h.b.keep (keeps_setH w G t x) (fun e => by have e' : G + 1 + 1 = G := e; omega)).keep (keeps_setH _ (G + 1) t x) (fun e => by have e' : G + 1 + 1 = G + 1 := e; omega)⟩
theorem rnS_new {W w2 : World} {a c : Nat} {v u : Value} {M : MemS} {G : Nat} (hG : w2.heap.size = G) (hT : TwoR W w2 a c v u M M) :
    ∃ w3, ((w2.alloc (.cells #[.int .i64 0, .int .i64 0, .int .i64 0, .bool false, .int .i64 0, .int .i64 0, .int .i64 0, .int .i64 0, .bool false, .int .i64 0, .int .i64 0, .int .i64 0, .int .i64 0, .bool false, .int .i64 0, .int .i64 0, .int .i64 0, .int .i64 0, .bool false, .int .i64 0] 38)).alloc (.cells #[.int .i64 0, .int .i64 0, .int .i64 0, .bool false, .int .i64 0, .int .i64 0, .int .i64 0, .int .i64 0, .bool false, .int .i64 0, .int .i64 0, .int .i64 0, .int .i64 0, .bool false, .int .i64 0, .int .i64 0, .int .i64 0, .int .i64 0, .bool false, .int .i64 0] 38)).alloc (.cells #[.bool false, .bool false, .bool false, .bool false] 67) = w3 ∧ RnS W w3 a c v u M G (fun _ => hand0) (fun _ => false) ∧ Apart W G a c v u ∧ G + 1 + 1 < w3.heap.size := by
  obtain ⟨w3, rfl, hr, hA, hl⟩ := runS_new hG hT
  refine ⟨_, rfl, ⟨hr.keep ((Keeps.refl NoS _).alloc _), ?_⟩, hA, ?_⟩
  · have h := boolsAt_new ((w2.alloc (.cells #[.int .i64 0, .int .i64 0, .int .i64 0, .bool false, .int .i64 0, .int .i64 0, .int .i64 0, .int .i64 0, .bool false, .int .i64 0, .int .i64 0, .int .i64 0, .int .i64 0, .bool false, .int .i64 0, .int .i64 0, .int .i64 0, .int .i64 0, .bool false, .int .i64 0] 38)).alloc (.cells #[.int .i64 0, .int .i64 0, .int .i64 0, .bool false, .int .i64 0, .int .i64 0, .int .i64 0, .int .i64 0, .bool false, .int .i64 0, .int .i64 0, .int .i64 0, .int .i64 0, .bool false, .int .i64 0, .int .i64 0, .int .i64 0, .int .i64 0, .bool false, .int .i64 0] 38)) 67
    have e : ((w2.alloc (.cells #[.int .i64 0, .int .i64 0, .int .i64 0, .bool false, .int .i64 0, .int .i64 0, .int .i64 0, .int .i64 0, .bool false, .int .i64 0, .int .i64 0, .int .i64 0, .int .i64 0, .bool false, .int .i64 0, .int .i64 0, .int .i64 0, .int .i64 0, .bool false, .int .i64 0] 38)).alloc (.cells #[.int .i64 0, .int .i64 0, .int .i64 0, .bool false, .int .i64 0, .int .i64 0, .int .i64 0, .int .i64 0, .bool false, .int .i64 0, .int .i64 0, .int .i64 0, .int .i64 0, .bool false, .int .i64 0, .int .i64 0, .int .i64 0, .int .i64 0, .bool false, .int .i64 0] 38)).heap.size = G + 1 + 1 := by rw [← hG]; simp
    rw [e] at h
    exact h
  · rw [← hG]; simp
end Go.Proofs.Ytjchcmomppfilaa
