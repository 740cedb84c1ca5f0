/- Many readers, or one writer, at layer 8's map: what a step computes (no program in sight). -/
import Derived.Test.YtjchcmomppfilaaMcsAll
namespace Go.Proofs.Ytjchcmomppfilaa
open Go.RowKit
/-- where a lock's readers are counted -/
def rdA (l : Nat) : Nat := 7 + 6 * l
theorem rdA_lt {l : Nat} (hl : l < 2) : rdA l < 48 := by unfold rdA; omega
theorem rdA_eq {l : Nat} (hl : l < 2) : lockP ⟨2, 2, 4, 0, 2⟩ l 3 = (rdA l : Nat) := by
  match l, hl with
  | 0, _ => decide
  | 1, _ => decide
def inI (s : Int) : Int := if s = 11 then 9 else if s = 12 then 7 else if s = 13 then 6 else 8
def outI (s : Int) : Int := if s = 0 then 9 else if s = 7 then 12 else if s = 6 then 13 else if s = 8 then 14 else 11
/-- a step to hold it, to read or to write; one to let others in -/
def wTake (M : MemS) (t l : Nat) (s : Int) (r : Bool) (x : Int) : MemS × HandS :=
  if 0 ≤ s ∧ s ≤ 5 then ((mTake M t l s r x).1, ⟨t, l, if (mTake M t l s r x).2.s = 9 then 10 else (mTake M t l s r x).2.s, r, (mTake M t l s r x).2.x⟩)
  else if s = 10 then (if r then (M.add (rdA l) 1, ⟨t, l, 11, r, x⟩) else (M.load (rdA l), ⟨t, l, if M.word (rdA l) = 0 then 9 else 10, r, x⟩))
  else if r = true ∧ 11 ≤ s ∧ s ≤ 14 then ((mDrop M t l (inI s) r x).1, ⟨t, l, outI (mDrop M t l (inI s) r x).2.s, r, (mDrop M t l (inI s) r x).2.x⟩)
  else (M, ⟨t, l, s, r, x⟩)
def wDrop (M : MemS) (t l : Nat) (s : Int) (r : Bool) (x : Int) : MemS × HandS :=
  if r then (if s = 9 then (M.add (rdA l) (-1), ⟨t, l, 0, r, x⟩) else (M, ⟨t, l, s, r, x⟩)) else mDrop M t l s r x
def wTakeI (M : MemS) (h : HandS) : MemS × HandS := if okH h.t h.l then wTake M h.t.toNat h.l.toNat h.s h.r h.x else (M, h)
def wDropI (M : MemS) (h : HandS) : MemS × HandS := if okH h.t h.l then wDrop M h.t.toNat h.l.toNat h.s h.r h.x else (M, h)
theorem wTakeI_nat {M : MemS} {t l : Nat} (ht : t < 4) (hl : l < 2) (s : Int) (r : Bool) (x : Int) : wTakeI M ⟨t, l, s, r, x⟩ = wTake M t l s r x := by
  unfold wTakeI; dsimp only; rw [if_pos (okH_nat ht hl), Int.toNat_natCast, Int.toNat_natCast]
theorem wDropI_nat {M : MemS} {t l : Nat} (ht : t < 4) (hl : l < 2) (s : Int) (r : Bool) (x : Int) : wDropI M ⟨t, l, s, r, x⟩ = wDrop M t l s r x := by
  unfold wDropI; dsimp only; rw [if_pos (okH_nat ht hl), Int.toNat_natCast, Int.toNat_natCast]
theorem mTake_hnd (M : MemS) (t l : Nat) (s : Int) (r : Bool) (x : Int) : ∃ M' s' x', mTake M t l s r x = (M', ⟨t, l, s', r, x'⟩) := by
  have h : ∃ s' x', (mTake M t l s r x).2 = ⟨t, l, s', r, x'⟩ := by
    unfold mTake
    repeat' split
    all_goals exact ⟨_, _, rfl⟩
  obtain ⟨s', x', h⟩ := h
  exact ⟨_, s', x', Prod.ext rfl h⟩
theorem mDrop_hnd (M : MemS) (t l : Nat) (s : Int) (r : Bool) (x : Int) : ∃ M' s' x', mDrop M t l s r x = (M', ⟨t, l, s', r, x'⟩) := by
  have h : ∃ s' x', (mDrop M t l s r x).2 = ⟨t, l, s', r, x'⟩ := by
    unfold mDrop
    repeat' split
    all_goals exact ⟨_, _, rfl⟩
  obtain ⟨s', x', h⟩ := h
  exact ⟨_, s', x', Prod.ext rfl h⟩
theorem mDrop_to {M M' : MemS} {t l : Nat} {s s' x' : Int} {r : Bool} {x : Int} (h : mDrop M t l s r x = (M', ⟨t, l, s', r, x'⟩)) (hs : s = 9 ∨ s = 7 ∨ s = 6 ∨ s = 8) : s' = 0 ∨ s' = 7 ∨ s' = 6 ∨ s' = 8 := by
  have h2 : (mDrop M t l s r x).2.s = s' := by rw [h]
  subst h2
  by_cases h96 : s = 9 ∨ s = 6
  · unfold mDrop
    rw [if_pos h96]
    by_cases e : M.word (ndA t l 1) = 0
    · rw [if_pos e]
      by_cases e9 : s = 9
      · rw [if_pos e9]; exact .inr (.inl rfl)
      · rw [if_neg e9]; exact .inr (.inr (.inl rfl))
    · rw [if_neg e]; exact .inr (.inr (.inr rfl))
  · by_cases h7 : s = 7
    · unfold mDrop
      rw [if_neg h96, if_pos h7]
      by_cases e : M.word (tlA l) = idA t l
      · rw [if_pos e]; exact .inl rfl
      · rw [if_neg e]; exact .inr (.inr (.inl rfl))
    · have h8 : s = 8 := by omega
      unfold mDrop
      rw [if_neg h96, if_neg h7, if_pos h8]
      cases thN l x with
      | none => exact .inr (.inr (.inr rfl))
      | some u => exact .inl rfl
theorem inI_is (s : Int) : inI s = 9 ∨ inI s = 7 ∨ inI s = 6 ∨ inI s = 8 := by
  unfold inI
  by_cases h1 : s = 11
  · rw [if_pos h1]; omega
  · by_cases h2 : s = 12
    · rw [if_neg h1, if_pos h2]; omega
    · by_cases h3 : s = 13
      · rw [if_neg h1, if_neg h2, if_pos h3]; omega
      · rw [if_neg h1, if_neg h2, if_neg h3]; omega
theorem add_len' (M : MemS) (i : Nat) (d : Int) : (M.add i d).L.length = M.L.length := by simp [MemS.add]
theorem wTake_len {M : MemS} {t l : Nat} {s : Int} {r : Bool} {x : Int} : (wTake M t l s r x).1.L.length = M.L.length := by
  unfold wTake
  repeat' split
  all_goals first | exact mTake_len | exact mDrop_len | exact add_len' _ _ _ | rfl
theorem wDrop_len {M : MemS} {t l : Nat} {s : Int} {r : Bool} {x : Int} : (wDrop M t l s r x).1.L.length = M.L.length := by
  unfold wDrop
  repeat' split
  all_goals first | exact mDrop_len | exact add_len' _ _ _ | rfl
theorem wTakeI_len (M : MemS) (h : HandS) : (wTakeI M h).1.L.length = M.L.length := by
  unfold wTakeI
  split
  · exact wTake_len
  · rfl
theorem wDropI_len (M : MemS) (h : HandS) : (wDropI M h).1.L.length = M.L.length := by
  unfold wDropI
  split
  · exact wDrop_len
  · rfl
theorem thP_eq {t : Int} : decide (0 ≤ threadP ⟨2, 2, 4, 0, 2⟩ t 0) = (decide (0 ≤ t) && decide (t < 4)) := by
  unfold threadP
  by_cases h : 0 ≤ t ∧ t < 4
  · rw [show mayB ⟨2, 2, 4, 0, 2⟩ = true by decide, inB_of h.1 (show t < 4 from h.2), inB_of (by decide) (by decide), decide_eq_true h.1, decide_eq_true h.2]
    simp only [Bool.and_self, if_true]
    have h3 : p2 ⟨2, 2, 4, 0, 2⟩ = 16 := by decide
    rw [h3]
    exact decide_eq_true (by omega)
  · rw [inB_not (i := t) (n := 4) h]
    simp only [Bool.and_false, Bool.false_and, Bool.false_eq_true, if_false]
    rw [Bool.eq_iff_iff]; simp; omega
theorem lkP_eq {l : Int} : decide (0 ≤ lockP ⟨2, 2, 4, 0, 2⟩ l 0) = (decide (0 ≤ l) && decide (l < 2)) := by
  by_cases h : 0 ≤ l ∧ l < 2
  · obtain ⟨n, rfl⟩ := Int.eq_ofNat_of_zero_le h.1
    rw [tlA_eq (by omega), decide_eq_true h.1, decide_eq_true h.2]
    exact decide_eq_true (by omega)
  · rw [lockP_no h, Bool.eq_iff_iff]; simp; omega
theorem okH_two (t l : Int) : okH t l = (decide (0 ≤ threadP ⟨2, 2, 4, 0, 2⟩ t 0) && decide (0 ≤ lockP ⟨2, 2, 4, 0, 2⟩ l 0)) := by
  rw [okH_eq, thP_eq, lkP_eq, Bool.and_assoc, Bool.and_assoc]
end Go.Proofs.Ytjchcmomppfilaa
