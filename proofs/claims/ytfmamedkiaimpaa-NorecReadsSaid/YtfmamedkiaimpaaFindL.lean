/- Where a key is in a list of words: no program in sight. -/
import Derived.Test.YtfmamedkiaimpaaReadsPut
namespace Go.Proofs.Ytfmamedkiaimpaa
open Go.RowKit
theorem retI {k : IntKind} {a b : Int} (h : a = b) : Ending.returned (.int k a) = .returned (.int k b) := by rw [h]
theorem retB {a b : Bool} (h : a = b) : Ending.returned (.bool a) = .returned (.bool b) := by rw [h]
/-- where a key is; -1 -/
def findL (l : List (Int × Int)) (k : Int) : Int := match l.findIdx? (fun x => x.1 == k) with | some i => (i : Int) | none => -1
theorem findL_none (l : List (Int × Int)) (k : Int) (h : ∀ x ∈ l, x.1 ≠ k) : findL l k = -1 := by
  have : l.findIdx? (fun x => x.1 == k) = none := by
    rw [List.findIdx?_eq_none_iff]; intro x hx; simpa using h x hx
  simp [findL, this]
theorem findL_some (l : List (Int × Int)) (k : Int) (i : Nat) (hi : i < l.length) (h1 : (l.getD i (0, 0)).1 = k) (h2 : ∀ x ∈ l.take i, x.1 ≠ k) : findL l k = (i : Int) := by
  have : l.findIdx? (fun x => x.1 == k) = some i := by
    rw [List.findIdx?_eq_some_iff_getElem]
    refine ⟨hi, by rw [getD_at _ _ _ hi] at h1; simpa using h1, fun j hj => ?_⟩
    have := h2 l[j] (List.mem_take_iff_getElem.2 ⟨j, by omega, rfl⟩)
    simpa using this
  simp [findL, this]
theorem findL_has (l : List (Int × Int)) (k : Int) : (0 ≤ findL l k ↔ hasKey l k = true) ∧ (findL l k < 0 ↔ hasKey l k = false) := by
  have key : hasKey l k = (l.findIdx? (fun x => x.1 == k)).isSome := by simp [hasKey, List.findIdx?_isSome]
  rw [key]
  unfold findL
  cases l.findIdx? (fun x => x.1 == k) <;> simp <;> omega

end Go.Proofs.Ytfmamedkiaimpaa
