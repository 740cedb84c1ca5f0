/- What is written and read again: plain laws of putW, getL, hasKey. -/
import Derived.Test.YtfmamedkiaimpaaWritesGet
namespace Go.Proofs.Ytfmamedkiaimpaa
open Go.RowKit

/-- what stands at a place -/
def look : List (Int × Int) → Int → Option Int
  | [], _ => none
  | x :: l, k => if x.1 = k then some x.2 else look l k
def upd : List (Int × Int) → Int → Int → List (Int × Int)
  | [], _, _ => []
  | y :: l, k, x => if y.1 = k then (k, x) :: l else y :: upd l k x
theorem look_has (l : List (Int × Int)) (k : Int) : hasKey l k = (look l k).isSome := by
  induction l with
  | nil => rfl
  | cons x l ih =>
    simp only [hasKey, List.any_cons, look] at ih ⊢
    by_cases h : x.1 = k
    · simp [h]
    · rw [ih]; simp [h]
theorem findL_cons (x : Int × Int) (l : List (Int × Int)) (k : Int) (h : x.1 ≠ k) (hk : hasKey l k = true) : (findL (x :: l) k).toNat = (findL l k).toNat + 1 := by
  obtain ⟨i, hi, _, _⟩ := findL_at l k hk
  unfold findL at hi ⊢
  rw [List.findIdx?_cons]
  simp only [beq_eq_false_iff_ne.2 h, Bool.false_eq_true, if_false]
  cases hf : l.findIdx? (fun x => x.1 == k) with
  | none => rw [hf] at hi; simp at hi
  | some j => simp
theorem findL_head (x : Int × Int) (l : List (Int × Int)) (k : Int) (h : x.1 = k) : (findL (x :: l) k).toNat = 0 := by
  unfold findL
  rw [List.findIdx?_cons]
  simp [h]
theorem getL_look (l : List (Int × Int)) (k : Int) : getL l k = (look l k).getD 0 := by
  induction l with
  | nil => rfl
  | cons x l ih =>
    by_cases h : x.1 = k
    · simp [getL, look, h, findL_head x l k h, hasKey]
    · cases hk : hasKey l k with
      | true =>
        have h2 : hasKey (x :: l) k = true := by simp only [hasKey, List.any_cons] at hk ⊢; rw [hk]; simp
        rw [getL, if_pos h2, findL_cons x l k h hk, List.getD_cons_succ]
        rw [getL, if_pos hk] at ih
        rw [ih]; simp [look, h]
      | false =>
        have h2 : hasKey (x :: l) k = false := by simp only [hasKey, List.any_cons] at hk ⊢; rw [hk]; simpa using h
        rw [getL, h2]
        rw [getL, hk] at ih
        rw [look, if_neg h, ← ih]; rfl
theorem set_upd (l : List (Int × Int)) (k x : Int) (hk : hasKey l k = true) : l.set (findL l k).toNat (k, x) = upd l k x := by
  induction l with
  | nil => simp [hasKey] at hk
  | cons y l ih =>
    by_cases h : y.1 = k
    · rw [findL_head y l k h]; simp [upd, h]
    · have hk2 : hasKey l k = true := by
        simp only [hasKey, List.any_cons, Bool.or_eq_true] at hk ⊢
        rcases hk with hk | hk
        · exact absurd (by simpa using hk) h
        · exact hk
      rw [findL_cons y l k h hk2, List.set_cons_succ, ih hk2]; simp [upd, h]
theorem upd_len (l : List (Int × Int)) (k x : Int) : (upd l k x).length = l.length := by
  induction l with
  | nil => rfl
  | cons y l ih => simp only [upd]; split <;> simp_all
theorem look_upd (l : List (Int × Int)) (k x a : Int) (hk : hasKey l k = true) : look (upd l k x) a = if k = a then some x else look l a := by
  induction l with
  | nil => simp [hasKey] at hk
  | cons y l ih =>
    by_cases h : y.1 = k
    · simp only [upd, h, if_true, look]
      by_cases h1 : k = a <;> simp [h1]
    · have hk2 : hasKey l k = true := by
        simp only [hasKey, List.any_cons, Bool.or_eq_true] at hk ⊢
        rcases hk with hk | hk
        · exact absurd (by simpa using hk) h
        · exact hk
      simp only [upd, if_neg h, look]
      rw [ih hk2]
      by_cases h1 : y.1 = a
      · rw [if_pos h1, if_pos h1]
        have : k ≠ a := fun e => h (h1.trans e.symm)
        simp [this]
      · simp [h1]
theorem look_snoc (l : List (Int × Int)) (k x a : Int) (hk : hasKey l k = false) : look (l ++ [(k, x)]) a = if k = a then some x else look l a := by
  induction l with
  | nil => simp [look]
  | cons y l ih =>
    have hk2 : hasKey l k = false ∧ y.1 ≠ k := by
      simp only [hasKey, List.any_cons, Bool.or_eq_false_iff] at hk ⊢
      exact ⟨hk.2, by simpa using hk.1⟩
    simp only [List.cons_append, look]
    rw [ih hk2.1]
    by_cases h1 : y.1 = a
    · have : k ≠ a := fun e => hk2.2 (h1.trans e.symm)
      simp [h1, this]
    · simp [h1]
theorem look_put (room : Int) (l : List (Int × Int)) (k x a : Int) (h : putOk room l k = true) : look (putW room l k x) a = if k = a then some x else look l a := by
  simp only [putOk, Bool.and_eq_true, decide_eq_true_eq, Bool.or_eq_true] at h
  unfold putW
  rw [if_neg (by omega)]
  cases hk : hasKey l k with
  | true => rw [if_pos rfl, set_upd l k x hk, look_upd l k x a hk]
  | false =>
    rw [hk] at h
    have hr : (l.length : Int) < room := by rcases h.2 with h | h <;> simp_all
    rw [if_neg (by simp), if_pos hr, look_snoc l k x a hk]
theorem putW_len (room : Int) (l : List (Int × Int)) (k x : Int) : (putW room l k x).length ≤ l.length + 1 := by
  unfold putW
  split
  · omega
  · split
    · simp
    · split <;> simp
theorem getL_put (room : Int) (l : List (Int × Int)) (k x a : Int) (h : putOk room l k = true) : getL (putW room l k x) a = if k = a then x else getL l a := by
  rw [getL_look, getL_look, look_put room l k x a h]; split <;> rfl
theorem hasKey_put (room : Int) (l : List (Int × Int)) (k x a : Int) (h : putOk room l k = true) : hasKey (putW room l k x) a = (decide (k = a) || hasKey l a) := by
  rw [look_has, look_has, look_put room l k x a h]; split <;> simp_all
end Go.Proofs.Ytfmamedkiaimpaa
