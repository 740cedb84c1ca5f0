/- A list of a law's own in a block; what StripeRows lays into it. -/
import Derived.Test.YtiomicjfbbkbaaaHRowsR
namespace Go.Proofs.Ytiomicjfbbkbaaa
open Go.RowKit
def LstAt (w : World) (G : Nat) (L : List Int) : Prop := ∃ (cs : Array Value) (T : TypeId), w.heap[G]? = some (.cells cs T (0, 0)) ∧ ∀ j, j < L.length → cs[j]? = some (.int .i64 (L.getD j 0))
theorem LstAt.keep {S : Nat → Prop} {w w' : World} {G : Nat} {L : List Int} (h : LstAt w G L) (k : Keeps S w w') (hG : ¬ S G) : LstAt w' G L := by
  obtain ⟨cs, T, h1, h2⟩ := h
  exact ⟨cs, T, k.blk h1 hG, h2⟩
theorem LstAt.cell {w : World} {G : Nat} {L : List Int} (h : LstAt w G L) (j : Nat) (hj : j < L.length) : w.cell? ⟨G, j, none⟩ = some (.int .i64 (L.getD j 0)) := by
  obtain ⟨cs, T, h1, h2⟩ := h
  rw [blk_cell h1]; exact h2 j hj
theorem LstAt.free {w : World} {G : Nat} {L : List Int} (h : LstAt w G L) (j : Nat) : w.frozen? ⟨G, j, none⟩ = false := by
  obtain ⟨cs, T, h1, h2⟩ := h
  exact blk_free h1 j
theorem LstAt.lt {w : World} {G : Nat} {L : List Int} (h : LstAt w G L) : G < w.heap.size := by
  obtain ⟨cs, T, h1, h2⟩ := h
  exact blk_lt h1
theorem LstAt.inI {w : World} {G cap : Nat} {L : List Int} (h : LstAt w G L) (hn : L.length ≤ 40) : InI w (.slice (some ⟨G, 0, none⟩) L.length cap) L :=
  ⟨_, _, rfl, by omega, fun _ => ⟨G, 0, rfl, fun k hk => by rw [Nat.zero_add]; exact h.cell k hk⟩, fun e => by cases e⟩
theorem LstAt.set {w : World} {G : Nat} {L : List Int} (h : LstAt w G L) (k : Nat) (x : Int) : LstAt (w.setCell ⟨G, k, none⟩ (.int .i64 x)) G (L.set k x) := by
  obtain ⟨cs, T, h1, h2⟩ := h
  refine ⟨_, T, blk_set h1 k _, fun j hj => ?_⟩
  rw [List.length_set] at hj
  have hcs : j < cs.size := (Array.getElem?_eq_some_iff.1 (h2 j hj)).1
  rw [Array.getElem?_setIfInBounds]
  by_cases e : k = j
  · subst e
    rw [if_pos rfl, if_pos hcs]
    simp [List.getD_eq_getElem?_getD, hj]
  · rw [if_neg e, h2 j hj]
    simp [List.getD_eq_getElem?_getD, e]
theorem owns_lst {w : World} {v : Value} {L : List Int} (h : w.ownsRow 0 3 1 v L.length (vals L)) (hL : L ≠ []) : ∃ g cap, v = .slice (some ⟨g, 0, none⟩) L.length cap ∧ LstAt w g L := by
  rcases h.2 with ⟨hv, hz⟩ | ⟨g, cap, cur, hv, _, hg, _, _, _, ht⟩
  · exact absurd (List.length_eq_zero_iff.1 hz) hL
  · refine ⟨g, cap, hv, cur, _, hg, fun j hj => ?_⟩
    have := vals_get L j hj
    rw [← ht, List.getElem?_take, if_pos (by omega)] at this
    rw [← this]; simp
/-- the first k places made small -/
def redL (n : Int) (L : List Int) (k : Nat) : List Int := (List.range L.length).map fun j => if j < k then (IntKind.u64.wrap (L.getD j 0)).tmod n else L.getD j 0
theorem redL_len (n : Int) (L : List Int) (k : Nat) : (redL n L k).length = L.length := by simp [redL]
theorem redL_get (n : Int) (L : List Int) (k j : Nat) (h : j < L.length) : (redL n L k).getD j 0 = if j < k then (IntKind.u64.wrap (L.getD j 0)).tmod n else L.getD j 0 := by
  simp [redL, List.getD_eq_getElem?_getD, h]
theorem redL_zero (n : Int) (L : List Int) : redL n L 0 = L := by
  apply List.ext_getElem
  · simp [redL]
  · intro j h1 h2
    simp [redL, List.getD_eq_getElem?_getD, h2]
theorem redL_set (n : Int) (L : List Int) (k : Nat) (h : k < L.length) : (redL n L k).set k ((IntKind.u64.wrap (L.getD k 0)).tmod n) = redL n L (k + 1) := by
  apply List.ext_getElem
  · simp [redL]
  · intro j h1 h2
    rw [List.getElem_set]
    have hj : j < L.length := by simpa [redL] using h2
    by_cases e : k = j
    · subst e; simp [redL]
    · rw [if_neg e]
      simp only [redL, List.getElem_map, List.getElem_range]
      by_cases hl : j < k
      · rw [if_pos hl, if_pos (by omega)]
      · rw [if_neg hl, if_neg (by omega)]
/-- rising rows -/
theorem rowsZ_rise (m : MapS) (L : List Int) (n : Nat) : (rowsZ m L n).Pairwise (· < ·) := by
  unfold rowsZ
  rw [List.pairwise_map]
  exact ((List.pairwise_lt_range (n := n)).filter _).imp fun h => by omega
theorem rowsZ_mem {m : MapS} {L : List Int} {n r : Nat} (h : r < n) (hh : hitB m L (r : Int) = true) : (r : Int) ∈ rowsZ m L n := by
  unfold rowsZ
  rw [List.mem_map]
  exact ⟨r, by simp [h, hh], rfl⟩
theorem rowsZ_nil (L : List Int) : rowsZ ⟨0, 0, 0, 0, 0⟩ L 16 = [] := rowsZ_no _ L 16 (by decide)
end Go.Proofs.Ytiomicjfbbkbaaa
