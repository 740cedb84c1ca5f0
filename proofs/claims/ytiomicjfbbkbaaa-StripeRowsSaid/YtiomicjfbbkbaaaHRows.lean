/- Rows of stripes: stripe.Rows and the document's own. -/
import Derived.Test.YtiomicjfbbkbaaaHash
import Derived.Test.YtiomicjfbbkbaaaWordsLaws
namespace Go.Proofs.Ytiomicjfbbkbaaa
open Go.RowKit
def hitB (m : MapS) (L : List Int) (r : Int) : Bool := L.any fun a => hashV m a == r
def rowsZ (m : MapS) (L : List Int) (n : Nat) : List Int := ((List.range n).filter fun r : Nat => hitB m L (r : Int)).map fun r : Nat => (r : Int)
def vals (L : List Int) : List Value := L.map (.int .i64)
theorem rowsZ_succ (m : MapS) (L : List Int) (n : Nat) : rowsZ m L (n + 1) = rowsZ m L n ++ (if hitB m L (n : Int) then [(n : Int)] else []) := by
  unfold rowsZ
  rw [List.range_succ, List.filter_append, List.map_append]
  cases h : hitB m L (n : Int) <;> simp [h]
theorem rowsZ_len (m : MapS) (L : List Int) (n : Nat) : (rowsZ m L n).length ≤ n := by
  unfold rowsZ
  rw [List.length_map]
  exact Nat.le_trans (List.length_filter_le _ _) (by simp)
theorem hitB_succ (m : MapS) (L : List Int) (k : Nat) (h : k < L.length) (r : Int) : hitB m (L.take (k + 1)) r = (hitB m (L.take k) r || hashV m (L.getD k 0) == r) := by
  unfold hitB
  rw [getD_at L 0 k h, List.take_succ_eq_append_getElem h, List.any_append]
  simp only [List.any_cons, List.any_nil, Bool.or_false]
theorem vals_len (L : List Int) : (vals L).length = L.length := by simp [vals]
theorem vals_get (L : List Int) (k : Nat) (h : k < L.length) : (vals L)[k]? = some (.int .i64 (L.getD k 0)) := by
  rw [getD_at L 0 k h]; simp [vals, h]
def boolsA (f : Nat → Bool) : Array Value := ((List.range 16).map fun j => Value.bool (f j)).toArray
theorem boolsA_get (f : Nat → Bool) (j : Nat) (h : j < 16) : (boolsA f)[j]? = some (.bool (f j)) := by simp [boolsA, h]
theorem boolsA_set (f g : Nat → Bool) (k : Nat) (h : ∀ j, g j = (f j || decide (j = k))) : (boolsA f).setIfInBounds k (.bool true) = boolsA g := by
  apply Array.ext_getElem?
  intro i
  rw [Array.getElem?_setIfInBounds]
  have hs : (boolsA f).size = 16 := by simp [boolsA]
  by_cases hk : k = i
  · subst hk
    rw [if_pos rfl]
    by_cases h16 : k < 16
    · rw [if_pos (by omega), boolsA_get g k h16, h k]; simp
    · rw [if_neg (by omega)]; simp [boolsA, h16]
  · rw [if_neg hk]
    by_cases h16 : i < 16
    · rw [boolsA_get f i h16, boolsA_get g i h16, h i, decide_eq_false (fun e => hk e.symm), Bool.or_false]
    · simp [boolsA, h16]
theorem boolsA_same (f g : Nat → Bool) (h : ∀ j, j < 16 → g j = f j) : boolsA f = boolsA g := by
  unfold boolsA
  congr 1
  apply List.map_congr_left
  intro j hj
  rw [h j (List.mem_range.1 hj)]
theorem clip_any (g n cap : Nat) (w : World) (h : n ≤ cap) (hb : n ≤ 16) : Calls Try.prog 28 #[.slice (some ⟨g, 0, none⟩) n cap] w fun e w' => e = .returned (.slice (some ⟨g, 0, none⟩) n n) ∧ w = w' := by
  go_enter Try.func28, Try.ntmps28
  go_wp2
  go_ret
  exact ⟨rfl, rfl⟩
theorem clip_nil (w : World) : Calls Try.prog 28 #[.slice none 0 0] w fun e w' => e = .returned (.slice none 0 0) ∧ w = w' := by
  go_enter Try.func28, Try.ntmps28
  go_wp2
  go_ret
  exact ⟨rfl, rfl⟩
theorem owns_row {w : World} {v : Value} {L : List Int} (h : w.ownsRow 0 3 1 v L.length (vals L)) : RowI w v L := by
  have hl := h.1
  rcases h.2 with ⟨hv, hz⟩ | ⟨g, cap, cur, hv, _, hg, _⟩
  · exact .inl ⟨hv, List.length_eq_zero_iff.1 hz⟩
  · refine .inr ⟨g, cap, hv, fun j hj => ?_⟩
    rw [← add_zero_off]
    exact h.cells (g := g) (by rw [hv]; rfl) j _ (vals_get _ _ hj)
/-- what Clip gives of an owned row -/
theorem clip_row {w : World} {v : Value} {L : List Int} (h : w.ownsRow 0 3 1 v L.length (vals L)) (hb : L.length ≤ 16) : Calls Try.prog 28 #[v] w fun e w' => ∃ u, e = .returned u ∧ RowI w' u L ∧ w = w' := by
  have hr := owns_row h
  rcases h.2 with ⟨hv, hz⟩ | ⟨g, cap, cur, hv, _, hg, hc, _⟩
  · subst hv
    refine (clip_nil w).mono ?_
    rintro e w' ⟨rfl, rfl⟩
    exact ⟨_, rfl, hr, rfl⟩
  · subst hv
    refine (clip_any g _ cap w hc hb).mono ?_
    rintro e w' ⟨rfl, rfl⟩
    refine ⟨_, rfl, ?_, rfl⟩
    rcases hr with ⟨h1, h2⟩ | ⟨g', cap', h1, h2⟩
    · simp at h1
    · simp only [Value.slice.injEq, Option.some.injEq, Addr.mk.injEq, true_and, and_true] at h1
      obtain ⟨rfl, rfl⟩ := h1
      exact .inr ⟨_, _, rfl, h2⟩
set_option maxRecDepth 100000 in
theorem ix16 (f : Nat → Bool) (k : Nat) (hk : k < 16) (w : World) : (Instr.index 54 (.agg #[.bool (f 0), .bool (f 1), .bool (f 2), .bool (f 3), .bool (f 4), .bool (f 5), .bool (f 6), .bool (f 7), .bool (f 8), .bool (f 9), .bool (f 10), .bool (f 11), .bool (f 12), .bool (f 13), .bool (f 14), .bool (f 15)]) (.int .i64 (k : Int))).run Try.prog w = .ok (.bool (f k)) w := by
  rcases (show k = 0 ∨ k = 1 ∨ k = 2 ∨ k = 3 ∨ k = 4 ∨ k = 5 ∨ k = 6 ∨ k = 7 ∨ k = 8 ∨ k = 9 ∨ k = 10 ∨ k = 11 ∨ k = 12 ∨ k = 13 ∨ k = 14 ∨ k = 15 by omega) with rfl | rfl | rfl | rfl | rfl | rfl | rfl | rfl | rfl | rfl | rfl | rfl | rfl | rfl | rfl | rfl
  all_goals kernel_rfl
end Go.Proofs.Ytiomicjfbbkbaaa
