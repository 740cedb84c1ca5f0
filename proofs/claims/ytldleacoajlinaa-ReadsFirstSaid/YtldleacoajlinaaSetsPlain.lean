/- Plain facts on sets of words: what is put first stays. No program in sight. -/
import Derived.Test.YtldleacoajlinaaReadsPut
namespace Go.Proofs.Ytldleacoajlinaa

/-- all of l put into an empty set of much room -/
def dedup : List (Int × Int) → List (Int × Int) := fun l => l.foldl (fun acc x => if hasKey acc x.1 then acc else acc ++ [x]) []
theorem dedup_snoc (l : List (Int × Int)) (x : Int × Int) : dedup (l ++ [x]) = if hasKey (dedup l) x.1 then dedup l else dedup l ++ [x] := by
  unfold dedup; rw [List.foldl_append]; rfl
theorem hasKey_snoc (l : List (Int × Int)) (x : Int × Int) (k : Int) : hasKey (l ++ [x]) k = (hasKey l k || (x.1 == k)) := by simp [hasKey]
theorem hasKey_dedup_aux (r l : List (Int × Int)) (h : l = r.reverse) (k : Int) : hasKey (dedup l) k = hasKey l k ∧ (dedup l).length ≤ l.length := by
  induction r generalizing l with
  | nil => subst h; exact ⟨rfl, Nat.le_refl _⟩
  | cons x r ih =>
    subst h
    obtain ⟨i1, i2⟩ := ih r.reverse rfl
    rw [List.reverse_cons, dedup_snoc, hasKey_snoc]
    by_cases hx : hasKey (dedup r.reverse) x.1 = true
    · rw [if_pos hx, i1]
      refine ⟨?_, by simp at i2 ⊢; omega⟩
      by_cases hk : x.1 = k
      · subst hk
        have := (ih r.reverse rfl).1
        rw [← this]
        simp [i1, this] at *
        simp [hx]
      · have : (x.1 == k) = false := by simpa using hk
        simp [this]
    · rw [if_neg hx, hasKey_snoc, i1]
      exact ⟨rfl, by simp at i2 ⊢; omega⟩
theorem hasKey_dedup (l : List (Int × Int)) (k : Int) : hasKey (dedup l) k = hasKey l k := (hasKey_dedup_aux l.reverse l (by simp) k).1
theorem dedup_le (l : List (Int × Int)) : (dedup l).length ≤ l.length := (hasKey_dedup_aux l.reverse l (by simp) 0).2
theorem take_snoc {α : Type} (l : List α) (d : α) (k : Nat) (h : k < l.length) : l.take (k + 1) = l.take k ++ [l.getD k d] := by
  rw [List.take_succ_eq_append_getElem h, getD_at l d k h]
theorem dedup_step (l : List (Int × Int)) (k : Nat) (h : k < l.length) : dedup (l.take (k + 1)) = if hasKey (dedup (l.take k)) (l.getD k (0, 0)).1 then dedup (l.take k) else dedup (l.take k) ++ [l.getD k (0, 0)] := by
  rw [take_snoc l (0, 0) k h, dedup_snoc]
/-- what is there stays, in its place -/
theorem dedup_prefix (l : List (Int × Int)) (k n : Nat) (h : k ≤ n) : ∃ r, dedup (l.take n) = dedup (l.take k) ++ r := by
  induction n with
  | zero => exact ⟨[], by simp [show k = 0 from by omega]⟩
  | succ n ih =>
    by_cases e : k = n + 1
    · exact ⟨[], by simp [e]⟩
    · obtain ⟨r, hr⟩ := ih (by omega)
      by_cases hn : n < l.length
      · rw [dedup_step l n hn]
        split
        · exact ⟨r, hr⟩
        · exact ⟨r ++ [l.getD n (0, 0)], by rw [hr]; simp⟩
      · refine ⟨r, ?_⟩
        rw [← hr, List.take_of_length_le (by omega), List.take_of_length_le (by omega)]
/-- the place of one that is put first -/
theorem dedup_at (l : List (Int × Int)) (k : Nat) (h : k < l.length) (hf : hasKey (l.take k) (l.getD k (0, 0)).1 = false) :
    (dedup (l.take k)).length < (dedup l).length ∧ (dedup l).getD (dedup (l.take k)).length (0, 0) = l.getD k (0, 0) := by
  have h1 := dedup_step l k h
  rw [hasKey_dedup, hf] at h1
  simp only [Bool.false_eq_true, if_false] at h1
  obtain ⟨r, hr⟩ := dedup_prefix l (k + 1) l.length (by omega)
  rw [List.take_length, h1] at hr
  rw [hr]
  refine ⟨by simp, ?_⟩
  rw [getD_at _ _ _ (by simp)]
  simp
theorem hasKey_take_succ (l : List (Int × Int)) (k : Nat) (h : k < l.length) (key : Int) : hasKey (l.take (k + 1)) key = (hasKey (l.take k) key || ((l.getD k (0, 0)).1 == key)) := by
  rw [take_snoc l (0, 0) k h, hasKey_snoc]
/-- Put of one more, the room being large -/
theorem putL_dedup (room : Int) (l : List (Int × Int)) (k : Nat) (h : k < l.length) (hr : (l.length : Int) ≤ room) : putL room (dedup (l.take k)) (l.getD k (0, 0)).1 (l.getD k (0, 0)).2 = dedup (l.take (k + 1)) := by
  rw [dedup_step l k h]
  have h2 := dedup_le (l.take k)
  rw [List.length_take] at h2
  unfold putL
  rw [if_pos (show ((dedup (l.take k)).length : Int) < room by omega)]
theorem putL_again (room : Int) (l : List (Int × Int)) (k : Nat) (h : k < l.length) (x : Int) : putL room (dedup (l.take (k + 1))) (l.getD k (0, 0)).1 x = dedup (l.take (k + 1)) := by
  have : hasKey (dedup (l.take (k + 1))) (l.getD k (0, 0)).1 = true := by rw [hasKey_dedup, hasKey_take_succ l k h]; simp
  rw [putL, if_pos this]
theorem room_dedup (room : Int) (l : List (Int × Int)) (k : Nat) (h : k < l.length) (hr : (l.length : Int) ≤ room) (key : Int) : roomFor room (dedup (l.take k)) key = true := by
  have h2 := dedup_le (l.take k)
  rw [List.length_take] at h2
  simp [roomFor, show ((dedup (l.take k)).length : Int) < room by omega]
theorem room_again (room : Int) (l : List (Int × Int)) (k : Nat) (h : k < l.length) : roomFor room (dedup (l.take (k + 1))) (l.getD k (0, 0)).1 = true := by
  have : hasKey (dedup (l.take (k + 1))) (l.getD k (0, 0)).1 = true := by rw [hasKey_dedup, hasKey_take_succ l k h]; simp
  rw [roomFor, this, Bool.or_true]
end Go.Proofs.Ytldleacoajlinaa
