/- Find, and the places by their names, of the document's own (syncoperef2). -/
import Derived.Test.YtfmamedkiaimpaaPlaceRef
namespace Go.Proofs.Ytfmamedkiaimpaa
open Go.RowKit
def plV (q : Pl) : Value := .agg #[.int .i64 q.1, .int .i64 q.2.1, .int .i64 q.2.2.1, .int .i64 q.2.2.2]
theorem idx_take {l : List Pl} {q : Pl} {k : Nat} (hk : k < l.length) (hno : ∀ x ∈ l.take k, x ≠ q) (h : l.getD k (0, 0, 0, 0) = q) : idx l q = (k : Int) := by
  refine idx_some ?_
  rw [List.findIdx?_eq_some_iff_getElem]
  refine ⟨hk, by rw [getD_at _ _ _ hk] at h; simp [h], fun j hj => ?_⟩
  have := hno l[j] (by rw [List.mem_take_iff_getElem]; exact ⟨j, by omega, rfl⟩)
  simpa using this
theorem take_no {l : List Pl} {q : Pl} {k : Nat} (hk : k < l.length) (hno : ∀ x ∈ l.take k, x ≠ q) (h : l.getD k (0, 0, 0, 0) ≠ q) : ∀ x ∈ l.take (k + 1), x ≠ q := by
  intro x hx
  rw [List.take_succ_eq_append_getElem hk, List.mem_append] at hx
  rcases hx with hx | hx
  · exact hno x hx
  · rw [getD_at _ _ _ hk] at h; simp at hx; rw [hx]; exact h
theorem ne4 {a b c d a' b' c' d' : Int} (h : (a, b, c, d) ≠ (a', b', c', d')) : (a == a') = false ∨ ((a == a') = true ∧ (b == b') = false) ∨ ((a == a') = true ∧ (b == b') = true ∧ (c == c') = false) ∨ ((a == a') = true ∧ (b == b') = true ∧ (c == c') = true ∧ (d == d') = false) := by
  simp only [ne_eq, Prod.mk.injEq] at h
  simp only [beq_eq_false_iff_ne, beq_iff_eq, ne_eq]
  omega
theorem rsize_no (m : MapS) (w : World) (hm : mayB m = false) : Calls Try.prog 33 #[mapV m] w fun e w' => e = .returned (.int .i64 0) ∧ Keeps NoS w w' := by
  have HM := Lib.hid hm
  clear hm
  obtain ⟨ms, ml, mt, mc, md⟩ := m
  unfold mapV
  dsimp only
  go_enter Try.func33, Try.ntmps33
  go_wp2_with (go_at_call 63; refine (placesl_no ⟨ms, ml, mt, mc, md⟩ _ HM.out).mono ?_; rintro e w1 ⟨rfl, hk1⟩)
  go_ret
  exact ⟨rfl, ((Keeps.refl _ _).alloc _).trans hk1⟩
theorem rsize_yes (S L T C D : Nat) (w : World) (hm : May ⟨S, L, T, C, D⟩) : Calls Try.prog 33 #[mapV ⟨S, L, T, C, D⟩] w fun e w' => e = .returned (.int .i64 (places S L T C D).length) ∧ Keeps NoS w w' := by
  have HM := Lib.hid hm
  clear hm
  unfold mapV
  dsimp only
  go_enter Try.func33, Try.ntmps33
  go_wp2_with (go_at_call 63; refine (placesl_yes S L T C D _ HM.out).mono ?_; rintro e w1 ⟨v, n, rfl, hown, _, hk1⟩; have hln := hown.1; rw [flatP_len] at hln; obtain ⟨p, cp, rfl⟩ := owns_slice hown; clear hown)
  go_ret
  exact ⟨congrArg (fun z : Int => Ending.returned (.int .i64 z)) (by omega), ((Keeps.refl _ _).alloc _).trans hk1⟩
theorem rsize_any (m : MapS) (w : World) : Calls Try.prog 33 #[mapV m] w fun e w' => e = .returned (.int .i64 (sizeP m)) ∧ Keeps NoS w w' := by
  rw [← placesM_len]
  cases hm : mayB m with
  | false =>
    have : (placesM m).length = 0 := by simp [placesM, hm]
    rw [this]; exact rsize_no m w hm
  | true =>
    have h := may_of hm
    obtain ⟨s, l, t, c, d⟩ := m
    obtain ⟨S, rfl⟩ := Int.eq_ofNat_of_zero_le (show 0 ≤ s by have := h.s1; simp only at this; omega)
    obtain ⟨L, rfl⟩ := Int.eq_ofNat_of_zero_le (show 0 ≤ l from h.l1)
    obtain ⟨T, rfl⟩ := Int.eq_ofNat_of_zero_le (show 0 ≤ t by have := h.t1; simp only at this; omega)
    obtain ⟨C, rfl⟩ := Int.eq_ofNat_of_zero_le (show 0 ≤ c from h.c1)
    obtain ⟨D, rfl⟩ := Int.eq_ofNat_of_zero_le (show 0 ≤ d from h.d1)
    have : placesM ⟨S, L, T, C, D⟩ = places S L T C D := by simp [placesM, hm]
    rw [this]; exact rsize_yes S L T C D w h
theorem rsize_lit (ms ml mt mc md : Int) (v : Int) (h : sizeP ⟨ms, ml, mt, mc, md⟩ = v) (w : World) : Calls Try.prog 33 #[.agg #[.int .i64 ms, .int .i64 ml, .int .i64 mt, .int .i64 mc, .int .i64 md]] w fun e w' => e = .returned (.int .i64 v) ∧ Keeps NoS w w' := by
  subst h; exact rsize_any ⟨ms, ml, mt, mc, md⟩ w
end Go.Proofs.Ytfmamedkiaimpaa
