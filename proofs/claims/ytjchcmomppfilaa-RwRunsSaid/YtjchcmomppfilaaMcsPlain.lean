/- The lock that is a queue, at layer 8's map: what a step computes (no program in sight). -/
import Derived.Test.YtjchcmomppfilaaHands
namespace Go.Proofs.Ytjchcmomppfilaa
open Go.RowKit
theorem wordM_set {L : List Int} {st : Int} {la : Acc} {i j : Nat} {x : Int} (hi : i < L.length) : MemS.word ⟨L.set i x, st, la⟩ j = if j = i then x else MemS.word ⟨L, st, la⟩ j := by
  unfold MemS.word
  rw [List.getD_eq_getElem?_getD, List.getD_eq_getElem?_getD, List.getElem?_set]
  by_cases e : i = j
  · subst e; simp [hi]
  · rw [if_neg e, if_neg (Ne.symm e)]
theorem wordM_store {M : MemS} {i j : Nat} {x : Int} (hi : i < M.L.length) : (M.store i x).word j = if j = i then x else M.word j := wordM_set hi
theorem wordM_load {M : MemS} {i j : Nat} : (M.load i).word j = M.word j := rfl
theorem wordM_swap {M : MemS} {i j : Nat} {o x : Int} (hi : i < M.L.length) : (M.swap i o x).word j = if j = i ∧ M.word i = o then x else M.word j := by
  unfold MemS.swap
  by_cases h : M.word i = o
  · have hb : (M.word i == o) = true := by simpa using h
    rw [hb, if_pos rfl]
    show MemS.word ⟨M.L.set i x, _, _⟩ j = _
    rw [wordM_set hi]
    by_cases e : j = i
    · rw [if_pos e, if_pos ⟨e, h⟩]
    · rw [if_neg e, if_neg (fun h2 => e h2.1)]; rfl
  · have hb : (M.word i == o) = false := by simpa using h
    rw [hb, if_neg (by decide), if_neg (fun h2 => h h2.2)]
    rfl
theorem lenM_store {M : MemS} {i : Nat} {d : Int} : (M.store i d).L.length = M.L.length := by simp [MemS.store]
theorem lenM_load {M : MemS} {i : Nat} : (M.load i).L.length = M.L.length := rfl
theorem lenM_swap {M : MemS} {i : Nat} {o x : Int} : (M.swap i o x).L.length = M.L.length := by
  unfold MemS.swap
  show (if _ then _ else _ : List Int).length = _
  split <;> simp
/-- where a thread's node of a lock stands, its parts; the lock's tail; the node's number -/
def ndA (t l p : Nat) : Nat := 24 + 2 * (t * 2 + l) + p
def tlA (l : Nat) : Nat := 4 + 6 * l
def idA (t l : Nat) : Int := 1 + 2 * t + l
theorem ndA_eq {t l p : Nat} (ht : t < 4) (hl : l < 2) (hp : p < 2) : nodeP ⟨2, 2, 4, 0, 2⟩ t l p = (ndA t l p : Nat) := by
  have h1 : mayB ⟨2, 2, 4, 0, 2⟩ = true := by decide
  unfold nodeP
  rw [h1, inB_of (by omega) (by show (t : Int) < 4; omega), inB_of (by omega) (by show (l : Int) < 2; omega), inB_of (by omega) (by show (p : Int) < 2; omega)]
  simp only [Bool.and_self, if_true]
  have h3 : p3 ⟨2, 2, 4, 0, 2⟩ = 24 := by decide
  rw [h3]
  unfold ndA

  omega
theorem tlA_eq {l : Nat} (hl : l < 2) : lockP ⟨2, 2, 4, 0, 2⟩ l 0 = (tlA l : Nat) := by
  match l, hl with
  | 0, _ => decide
  | 1, _ => decide
theorem ndA_no {t l p : Int} (h : ¬ (0 ≤ t ∧ t < 4 ∧ 0 ≤ l ∧ l < 2)) : nodeP ⟨2, 2, 4, 0, 2⟩ t l p = -1 := by
  unfold nodeP
  by_cases ht : 0 ≤ t ∧ t < 4
  · rw [inB_not (i := l) (n := 2) (fun hl => h ⟨ht.1, ht.2, hl.1, hl.2⟩)]; simp
  · rw [inB_not (i := t) (n := 4) ht]; simp
/-- whose node of a lock a number is -/
def thN (l : Nat) (x : Int) : Option Nat := if x = idA 0 l then some 0 else if x = idA 1 l then some 1 else if x = idA 2 l then some 2 else if x = idA 3 l then some 3 else none
theorem thN_id {t l : Nat} (ht : t < 4) : thN l (idA t l) = some t := by
  match t, ht with
  | 0, _ => simp [thN]
  | 1, _ => unfold thN idA; rw [if_neg (by omega), if_pos rfl]
  | 2, _ => unfold thN idA; rw [if_neg (by omega), if_neg (by omega), if_pos rfl]
  | 3, _ => unfold thN idA; rw [if_neg (by omega), if_neg (by omega), if_neg (by omega), if_pos rfl]
theorem thN_lt {l t : Nat} {x : Int} (h : thN l x = some t) : t < 4 ∧ x = idA t l := by
  unfold thN at h
  split at h
  · cases h; exact ⟨by decide, by assumption⟩
  · split at h
    · cases h; exact ⟨by decide, by assumption⟩
    · split at h
      · cases h; exact ⟨by decide, by assumption⟩
      · split at h
        · cases h; exact ⟨by decide, by assumption⟩
        · cases h
/-- a step to hold it -/
def mTake (M : MemS) (t l : Nat) (s : Int) (r : Bool) (x : Int) : MemS × HandS :=
  if s = 0 then (M.store (ndA t l 0) 1, ⟨t, l, 1, r, x⟩)
  else if s = 1 then (M.store (ndA t l 1) 0, ⟨t, l, 2, r, x⟩)
  else if s = 2 then (M.load (tlA l), ⟨t, l, 3, r, M.word (tlA l)⟩)
  else if s = 3 then (M.swap (tlA l) x (idA t l), if M.word (tlA l) = x then (if x = 0 then ⟨t, l, 9, r, x⟩ else ⟨t, l, 4, r, x⟩) else ⟨t, l, 3, r, M.word (tlA l)⟩)
  else if s = 4 then (match thN l x with | some u => (M.store (ndA u l 1) (idA t l), ⟨t, l, 5, r, 0⟩) | none => (M, ⟨t, l, 4, r, x⟩))
  else if s = 5 then (M.load (ndA t l 0), ⟨t, l, if M.word (ndA t l 0) = 0 then 9 else 5, r, x⟩)
  else (M, ⟨t, l, s, r, x⟩)
/-- a step to let the next one in -/
def mDrop (M : MemS) (t l : Nat) (s : Int) (r : Bool) (x : Int) : MemS × HandS :=
  if s = 9 ∨ s = 6 then (M.load (ndA t l 1), if M.word (ndA t l 1) = 0 then ⟨t, l, if s = 9 then 7 else 6, r, x⟩ else ⟨t, l, 8, r, M.word (ndA t l 1)⟩)
  else if s = 7 then (M.swap (tlA l) (idA t l) 0, ⟨t, l, if M.word (tlA l) = idA t l then 0 else 6, r, x⟩)
  else if s = 8 then (match thN l x with | some u => (M.store (ndA u l 0) 0, ⟨t, l, 0, r, 0⟩) | none => (M, ⟨t, l, 8, r, x⟩))
  else (M, ⟨t, l, s, r, x⟩)
theorem mTake_len {M : MemS} {t l : Nat} {s : Int} {r : Bool} {x : Int} : (mTake M t l s r x).1.L.length = M.L.length := by
  unfold mTake
  repeat' split
  all_goals first | exact lenM_store | exact lenM_swap | rfl
theorem mDrop_len {M : MemS} {t l : Nat} {s : Int} {r : Bool} {x : Int} : (mDrop M t l s r x).1.L.length = M.L.length := by
  unfold mDrop
  repeat' split
  all_goals first | exact lenM_store | exact lenM_swap | rfl
end Go.Proofs.Ytjchcmomppfilaa
