/- Rows of bumps and of numbers in blocks of their own. -/
import Derived.Test.YtodaiogefgdcpaaBumpsPlain
namespace Go.Proofs.Ytodaiogefgdcpaa
open Go.RowKit
def BumpsAt (n : Nat) (w : World) (G : Nat) (f : Nat → BumpS) : Prop := ∃ (cs : Array Value) (T : TypeId), w.heap[G]? = some (.cells cs T (0, 0)) ∧ ∀ t, t < n → cs[t * 4]? = some (.int .i64 (f t).k) ∧ cs[t * 4 + 1]? = some (.int .i64 (f t).s) ∧ cs[t * 4 + 2]? = some (.int .i64 (f t).x) ∧ cs[t * 4 + 3]? = some (.int .i64 (f t).y)
theorem BumpsAt.keep {n : Nat} {S : Nat → Prop} {w w' : World} {G : Nat} {f : Nat → BumpS} (h : BumpsAt n w G f) (k : Keeps S w w') (hG : ¬ S G) : BumpsAt n w' G f := by
  obtain ⟨cs, T, h1, h2⟩ := h
  exact ⟨cs, T, k.blk h1 hG, h2⟩
theorem BumpsAt.cell {n : Nat} {w : World} {G : Nat} {f : Nat → BumpS} (h : BumpsAt n w G f) {t : Nat} (ht : t < n) {a b x y : Int} (e : f t = ⟨a, b, x, y⟩) :
    w.cell? ⟨G, t * 4, none⟩ = some (.int .i64 a) ∧ w.cell? ⟨G, t * 4 + 1, none⟩ = some (.int .i64 b) ∧ w.cell? ⟨G, t * 4 + 2, none⟩ = some (.int .i64 x) ∧ w.cell? ⟨G, t * 4 + 3, none⟩ = some (.int .i64 y) := by
  obtain ⟨cs, T, h1, h2⟩ := h
  obtain ⟨c0, c1, c2, c3⟩ := h2 t ht
  rw [e] at c0 c1 c2 c3
  rw [blk_cell h1, blk_cell h1, blk_cell h1, blk_cell h1]
  exact ⟨c0, c1, c2, c3⟩
theorem BumpsAt.free {n : Nat} {w : World} {G : Nat} {f : Nat → BumpS} (h : BumpsAt n w G f) (j : Nat) : w.frozen? ⟨G, j, none⟩ = false := by
  obtain ⟨cs, T, h1, h2⟩ := h
  exact blk_free h1 j
theorem BumpsAt.lt {n : Nat} {w : World} {G : Nat} {f : Nat → BumpS} (h : BumpsAt n w G f) : G < w.heap.size := by
  obtain ⟨cs, T, h1, h2⟩ := h
  exact blk_lt h1
theorem get_set4 {cs : Array Value} {i : Nat} {a b c d : Value} (hi : i + 3 < cs.size) (j : Nat) :
    ((((cs.setIfInBounds i a).setIfInBounds (i + 1) b).setIfInBounds (i + 2) c).setIfInBounds (i + 3) d)[j]? = if j = i then some a else if j = i + 1 then some b else if j = i + 2 then some c else if j = i + 3 then some d else cs[j]? := by
  simp only [Array.getElem?_setIfInBounds, Array.size_setIfInBounds]
  repeat' split
  all_goals first | rfl | omega
/-- four cells of a bump in a row -/
def setBp (w : World) (G t : Nat) (b : BumpS) : World := (((w.setCell ⟨G, t * 4, none⟩ (.int .i64 b.k)).setCell ⟨G, t * 4 + 1, none⟩ (.int .i64 b.s)).setCell ⟨G, t * 4 + 2, none⟩ (.int .i64 b.x)).setCell ⟨G, t * 4 + 3, none⟩ (.int .i64 b.y)
theorem setBp_keeps (w : World) (G t : Nat) (b : BumpS) : Keeps (just G) w (setBp w G t b) :=
  ((((Keeps.refl (just G) w).setCell (p := ⟨G, _, none⟩) (fun _ => rfl) _).setCell (p := ⟨G, _, none⟩) (fun _ => rfl) _).setCell (p := ⟨G, _, none⟩) (fun _ => rfl) _).setCell (p := ⟨G, _, none⟩) (fun _ => rfl) _
theorem BumpsAt.set {n : Nat} {w : World} {G : Nat} {f : Nat → BumpS} (h : BumpsAt n w G f) (t : Nat) (ht : t < n) (b : BumpS) : BumpsAt n (setBp w G t b) G (upd f t b) := by
  obtain ⟨cs, T, h1, h2⟩ := h
  refine ⟨_, T, blk_set (blk_set (blk_set (blk_set h1 _ _) _ _) _ _) _ _, fun j hj => ?_⟩
  have hsz : t * 4 + 3 < cs.size := (Array.getElem?_eq_some_iff.1 (h2 t ht).2.2.2).1
  simp only [get_set4 hsz]
  by_cases e : j = t
  · subst e
    rw [upd_at]
    simp
  · rw [upd_ne _ _ e]
    rw [if_neg (by omega), if_neg (by omega), if_neg (by omega), if_neg (by omega), if_neg (by omega), if_neg (by omega), if_neg (by omega), if_neg (by omega), if_neg (by omega), if_neg (by omega), if_neg (by omega), if_neg (by omega), if_neg (by omega), if_neg (by omega), if_neg (by omega), if_neg (by omega)]
    exact h2 j hj
theorem BumpsAt.congr {n : Nat} {w : World} {G : Nat} {f g : Nat → BumpS} (h : BumpsAt n w G f) (e : ∀ t, t < n → f t = g t) : BumpsAt n w G g := by
  obtain ⟨cs, T, h1, h2⟩ := h
  exact ⟨cs, T, h1, fun t ht => by rw [← e t ht]; exact h2 t ht⟩
/-- numbers in a row -/
def NumsAt (n : Nat) (w : World) (G : Nat) (f : Nat → Int) : Prop := ∃ (cs : Array Value) (T : TypeId), w.heap[G]? = some (.cells cs T (0, 0)) ∧ ∀ t, t < n → cs[t]? = some (.int .i64 (f t))
theorem NumsAt.keep {n : Nat} {S : Nat → Prop} {w w' : World} {G : Nat} {f : Nat → Int} (h : NumsAt n w G f) (k : Keeps S w w') (hG : ¬ S G) : NumsAt n w' G f := by
  obtain ⟨cs, T, h1, h2⟩ := h
  exact ⟨cs, T, k.blk h1 hG, h2⟩
theorem NumsAt.cell {n : Nat} {w : World} {G : Nat} {f : Nat → Int} (h : NumsAt n w G f) (t : Nat) (ht : t < n) : w.cell? ⟨G, t, none⟩ = some (.int .i64 (f t)) := by
  obtain ⟨cs, T, h1, h2⟩ := h
  rw [blk_cell h1]; exact h2 t ht
theorem NumsAt.free {n : Nat} {w : World} {G : Nat} {f : Nat → Int} (h : NumsAt n w G f) (j : Nat) : w.frozen? ⟨G, j, none⟩ = false := by
  obtain ⟨cs, T, h1, h2⟩ := h
  exact blk_free h1 j
theorem NumsAt.lt {n : Nat} {w : World} {G : Nat} {f : Nat → Int} (h : NumsAt n w G f) : G < w.heap.size := by
  obtain ⟨cs, T, h1, h2⟩ := h
  exact blk_lt h1
theorem NumsAt.set {n : Nat} {w : World} {G : Nat} {f : Nat → Int} (h : NumsAt n w G f) (t : Nat) (ht : t < n) (x : Int) : NumsAt n (w.setCell ⟨G, t, none⟩ (.int .i64 x)) G (upd f t x) := by
  obtain ⟨cs, T, h1, h2⟩ := h
  have hsz : t < cs.size := (Array.getElem?_eq_some_iff.1 (h2 t ht)).1
  refine ⟨_, T, blk_set h1 t _, fun j hj => ?_⟩
  rw [Array.getElem?_setIfInBounds]
  by_cases e : t = j
  · subst e
    rw [if_pos rfl, if_pos hsz, upd_at]
  · rw [if_neg e, upd_ne _ _ (Ne.symm e)]
    exact h2 j hj
end Go.Proofs.Ytodaiogefgdcpaa
