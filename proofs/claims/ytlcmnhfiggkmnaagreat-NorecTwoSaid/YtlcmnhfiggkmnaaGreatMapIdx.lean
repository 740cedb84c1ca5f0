/- Where each place stands in the document's list is what the program reckons. No program in sight. -/
import Derived.Test.YtlcmnhfiggkmnaaGreatMapPlain
namespace Go.Proofs.YtlcmnhfiggkmnaaGreat

theorem idx_some {l : List Pl} {q : Pl} {n : Nat} (h : l.findIdx? (· == q) = some n) : idx l q = (n : Int) := by simp [idx, h]
theorem idx_none {l : List Pl} {q : Pl} (h : l.findIdx? (· == q) = none) : idx l q = -1 := by simp [idx, h]
theorem blkS_find (n : Nat) (I : Int) : (blkS n).findIdx? (· == (3, I, 0, 0)) = if decide (0 ≤ I) && decide (I.toNat < n) then some I.toNat else none :=
  find_map n _ _ I.toNat (decide (0 ≤ I)) (fun i => by simp only [Prod.mk.injEq, decide_eq_true_eq, and_true, true_and]; omega)
theorem blkF_find (n : Nat) (I : Int) : (blkF n).findIdx? (· == (7, I, 0, 0)) = if decide (0 ≤ I) && decide (I.toNat < n) then some I.toNat else none :=
  find_map n _ _ I.toNat (decide (0 ≤ I)) (fun i => by simp only [Prod.mk.injEq, decide_eq_true_eq, and_true, true_and]; omega)
theorem rowL_find (i k : Nat) (I P : Int) : (rowL i k).findIdx? (· == (4, I, 0, P)) = if decide ((i : Int) = I ∧ 0 ≤ P) && decide (P.toNat < k) then some P.toNat else none :=
  find_map k _ _ P.toNat (decide ((i : Int) = I ∧ 0 ≤ P)) (fun j => by simp only [Prod.mk.injEq, decide_eq_true_eq, and_true, true_and]; omega)
theorem rowC_find (i k : Nat) (I P : Int) : (rowC i k).findIdx? (· == (8, I, 0, P)) = if decide ((i : Int) = I ∧ 0 ≤ P) && decide (P.toNat < k) then some P.toNat else none :=
  find_map k _ _ P.toNat (decide ((i : Int) = I ∧ 0 ≤ P)) (fun j => by simp only [Prod.mk.injEq, decide_eq_true_eq, and_true, true_and]; omega)
theorem blkL_find (n : Nat) (I P : Int) : (blkL n).findIdx? (· == (4, I, 0, P)) = if 0 ≤ I ∧ I < n ∧ 0 ≤ P ∧ P < 6 then some (P.toNat + I.toNat * 6) else none := by
  by_cases h0 : 0 ≤ I
  · obtain ⟨i, rfl⟩ := Int.eq_ofNat_of_zero_le h0
    rw [blkL, find_flat 6 n _ _ i _ (fun j => rowL_len j 6) (fun j hj => by rw [rowL_find, if_neg (by simp; omega)]) (rowL_find i 6 _ P)]
    by_cases h1 : i < n
    · by_cases h2 : 0 ≤ P ∧ P < 6
      · rw [if_pos h1, if_pos (by simp; omega), if_pos (by omega)]; simp
      · rw [if_pos h1, if_neg (by simp; omega), if_neg (by omega)]; rfl
    · rw [if_neg h1, if_neg (by omega)]
  · rw [blkL, find_flat_no n _ _ (fun j => by rw [rowL_find, if_neg (by simp; omega)]), if_neg (by omega)]
theorem blkC_find (n : Nat) (I P : Int) : (blkC n).findIdx? (· == (8, I, 0, P)) = if 0 ≤ I ∧ I < n ∧ 0 ≤ P ∧ P < 6 then some (P.toNat + I.toNat * 6) else none := by
  by_cases h0 : 0 ≤ I
  · obtain ⟨i, rfl⟩ := Int.eq_ofNat_of_zero_le h0
    rw [blkC, find_flat 6 n _ _ i _ (fun j => rowC_len j 6) (fun j hj => by rw [rowC_find, if_neg (by simp; omega)]) (rowC_find i 6 _ P)]
    by_cases h1 : i < n
    · by_cases h2 : 0 ≤ P ∧ P < 6
      · rw [if_pos h1, if_pos (by simp; omega), if_pos (by omega)]; simp
      · rw [if_pos h1, if_neg (by simp; omega), if_neg (by omega)]; rfl
    · rw [if_neg h1, if_neg (by omega)]
  · rw [blkC, find_flat_no n _ _ (fun j => by rw [rowC_find, if_neg (by simp; omega)]), if_neg (by omega)]
theorem two_find (a b : Pl) (q : Pl) : [a, b].findIdx? (· == q) = if a = q then some 0 else if b = q then some 1 else none := by
  by_cases h1 : a = q <;> by_cases h2 : b = q <;> simp [List.findIdx?_cons, h1, h2]
theorem blkT_find (n : Nat) (I P : Int) : (blkT n).findIdx? (· == (5, I, 0, P)) = if 0 ≤ I ∧ I < n ∧ 0 ≤ P ∧ P < 2 then some (P.toNat + I.toNat * 2) else none := by
  by_cases h0 : 0 ≤ I
  · obtain ⟨i, rfl⟩ := Int.eq_ofNat_of_zero_le h0
    rw [blkT, find_flat 2 n _ _ i _ (fun j => rfl) (fun j hj => by rw [two_find, if_neg (by simp; omega), if_neg (by simp; omega)]) (two_find _ _ _)]
    by_cases h1 : i < n
    · by_cases h2 : 0 = P
      · subst h2; rw [if_pos h1, if_pos (by simp), if_pos (by omega)]; simp
      · by_cases h3 : 1 = P
        · subst h3; rw [if_pos h1, if_neg (by simp), if_pos (by simp), if_pos (by omega)]; simp
        · rw [if_pos h1, if_neg (by simp; omega), if_neg (by simp; omega), if_neg (by omega)]; rfl
    · rw [if_neg h1, if_neg (by omega)]
  · rw [blkT, find_flat_no n _ _ (fun j => by rw [two_find, if_neg (by simp; omega), if_neg (by simp; omega)]), if_neg (by omega)]
theorem rowN_find (a k : Nat) (I J P : Int) : (rowN a k).findIdx? (· == (6, I, J, P)) = if (a : Int) = I ∧ 0 ≤ J ∧ J < k ∧ 0 ≤ P ∧ P < 2 then some (P.toNat + J.toNat * 2) else none := by
  by_cases h0 : 0 ≤ J
  · obtain ⟨i, rfl⟩ := Int.eq_ofNat_of_zero_le h0
    rw [rowN, find_flat 2 k _ _ i _ (fun j => rfl) (fun j hj => by rw [two_find, if_neg (by simp; omega), if_neg (by simp; omega)]) (two_find _ _ _)]
    by_cases h1 : i < k
    · by_cases h4 : (a : Int) = I
      · subst h4
        by_cases h2 : 0 = P
        · subst h2; rw [if_pos h1, if_pos (by simp), if_pos (by omega)]; simp
        · by_cases h3 : 1 = P
          · subst h3; rw [if_pos h1, if_neg (by simp), if_pos (by simp), if_pos (by omega)]; simp
          · rw [if_pos h1, if_neg (by simp; omega), if_neg (by simp; omega), if_neg (by omega)]; rfl
      · rw [if_pos h1, if_neg (by simp; omega), if_neg (by simp; omega), if_neg (by omega)]; rfl
    · rw [if_neg h1, if_neg (by omega)]
  · rw [rowN, find_flat_no k _ _ (fun j => by rw [two_find, if_neg (by simp; omega), if_neg (by simp; omega)]), if_neg (by omega)]
theorem blkN_find (L n : Nat) (I J P : Int) : (blkN L n).findIdx? (· == (6, I, J, P)) = if 0 ≤ I ∧ I < n ∧ 0 ≤ J ∧ J < L ∧ 0 ≤ P ∧ P < 2 then some (P.toNat + J.toNat * 2 + I.toNat * (L * 2)) else none := by
  by_cases h0 : 0 ≤ I
  · obtain ⟨i, rfl⟩ := Int.eq_ofNat_of_zero_le h0
    rw [blkN, find_flat (L * 2) n _ _ i _ (fun j => rowN_len j L) (fun j hj => by rw [rowN_find, if_neg (by omega)]) (rowN_find _ _ _ _ _)]
    by_cases h1 : i < n
    · by_cases h2 : 0 ≤ J ∧ J < L ∧ 0 ≤ P ∧ P < 2
      · rw [if_pos h1, if_pos (by omega), if_pos (by omega)]; simp
      · rw [if_pos h1, if_neg (by omega), if_neg (by omega)]; rfl
    · rw [if_neg h1, if_neg (by omega)]
  · rw [blkN, find_flat_no n _ _ (fun j => by rw [rowN_find, if_neg (by omega)]), if_neg (by omega)]
theorem blkD_find9 (n : Nat) (I : Int) : (blkD n).findIdx? (· == (9, I, 0, 0)) = if 0 ≤ I ∧ I < n then some (I.toNat * 2) else none := by
  by_cases h0 : 0 ≤ I
  · obtain ⟨i, rfl⟩ := Int.eq_ofNat_of_zero_le h0
    rw [blkD, find_flat 2 n _ _ i _ (fun j => rfl) (fun j hj => by rw [two_find, if_neg (by simp; omega), if_neg (by simp)]) (two_find _ _ _)]
    by_cases h1 : i < n
    · rw [if_pos h1, if_pos (by simp), if_pos (by omega)]; simp
    · rw [if_neg h1, if_neg (by omega)]
  · rw [blkD, find_flat_no n _ _ (fun j => by rw [two_find, if_neg (by simp; omega), if_neg (by simp)]), if_neg (by omega)]
theorem blkD_find10 (n : Nat) (I : Int) : (blkD n).findIdx? (· == (10, I, 0, 0)) = if 0 ≤ I ∧ I < n then some (1 + I.toNat * 2) else none := by
  by_cases h0 : 0 ≤ I
  · obtain ⟨i, rfl⟩ := Int.eq_ofNat_of_zero_le h0
    rw [blkD, find_flat 2 n _ _ i _ (fun j => rfl) (fun j hj => by rw [two_find, if_neg (by simp), if_neg (by simp; omega)]) (two_find _ _ _)]
    by_cases h1 : i < n
    · rw [if_pos h1, if_neg (by simp), if_pos (by simp), if_pos (by omega)]; simp
    · rw [if_neg h1, if_neg (by omega)]
  · rw [blkD, find_flat_no n _ _ (fun j => by rw [two_find, if_neg (by simp), if_neg (by simp; omega)]), if_neg (by omega)]

section
variable (S L T C D : Nat)
theorem at_clock : (places S L T C D).findIdx? (· == (1, 0, 0, 0)) = some 0 := by
  rw [find_places, show pre0.findIdx? (· == (1, 0, 0, 0)) = some 0 from rfl]; rfl
theorem at_seq : (places S L T C D).findIdx? (· == (2, 0, 0, 0)) = some 1 := by
  rw [find_places, show pre0.findIdx? (· == (2, 0, 0, 0)) = some 1 from rfl]; rfl
theorem at_stripe (I : Int) : (places S L T C D).findIdx? (· == (3, I, 0, 0)) = if 0 ≤ I ∧ I < S then some (2 + I.toNat) else none := by
  rw [find_places, find_other2 kind0 (by simp) (by simp), blkS_find, find_other (kindL L) (by simp), find_other (kindT T) (by simp), find_other (kindN L T) (by simp), find_other (kindF T) (by simp), find_other (kindC C) (by simp), find_other2 (kindD D) (by simp) (by simp)]
  by_cases h : 0 ≤ I ∧ I < S
  · rw [if_pos (by simp; omega), if_pos h]; simp [Nat.add_comm]
  · rw [if_neg (by simp; omega), if_neg h]; rfl
theorem at_lock (I P : Int) : (places S L T C D).findIdx? (· == (4, I, 0, P)) = if 0 ≤ I ∧ I < L ∧ 0 ≤ P ∧ P < 6 then some (2 + S + (P.toNat + I.toNat * 6)) else none := by
  rw [find_places, find_other2 kind0 (by simp) (by simp), blkL_find, find_other (kindS S) (by simp), find_other (kindT T) (by simp), find_other (kindN L T) (by simp), find_other (kindF T) (by simp), find_other (kindC C) (by simp), find_other2 (kindD D) (by simp) (by simp)]
  split
  · simp <;> omega
  · rfl
theorem at_thread (I P : Int) : (places S L T C D).findIdx? (· == (5, I, 0, P)) = if 0 ≤ I ∧ I < T ∧ 0 ≤ P ∧ P < 2 then some (2 + S + L * 6 + (P.toNat + I.toNat * 2)) else none := by
  rw [find_places, find_other2 kind0 (by simp) (by simp), blkT_find, find_other (kindS S) (by simp), find_other (kindL L) (by simp), find_other (kindN L T) (by simp), find_other (kindF T) (by simp), find_other (kindC C) (by simp), find_other2 (kindD D) (by simp) (by simp)]
  split
  · simp <;> omega
  · rfl
theorem at_node (I J P : Int) : (places S L T C D).findIdx? (· == (6, I, J, P)) = if 0 ≤ I ∧ I < T ∧ 0 ≤ J ∧ J < L ∧ 0 ≤ P ∧ P < 2 then some (2 + S + L * 6 + T * 2 + (P.toNat + J.toNat * 2 + I.toNat * (L * 2))) else none := by
  rw [find_places, find_other2 kind0 (by simp) (by simp), blkN_find, find_other (kindS S) (by simp), find_other (kindL L) (by simp), find_other (kindT T) (by simp), find_other (kindF T) (by simp), find_other (kindC C) (by simp), find_other2 (kindD D) (by simp) (by simp)]
  split
  · simp <;> omega
  · rfl
theorem at_flag (I : Int) : (places S L T C D).findIdx? (· == (7, I, 0, 0)) = if 0 ≤ I ∧ I < T then some (2 + S + L * 6 + T * 2 + T * (L * 2) + I.toNat) else none := by
  rw [find_places, find_other2 kind0 (by simp) (by simp), blkF_find, find_other (kindS S) (by simp), find_other (kindL L) (by simp), find_other (kindT T) (by simp), find_other (kindN L T) (by simp), find_other (kindC C) (by simp), find_other2 (kindD D) (by simp) (by simp)]
  by_cases h : 0 ≤ I ∧ I < T
  · rw [if_pos (by simp; omega), if_pos h]; simp [Nat.add_comm]
  · rw [if_neg (by simp; omega), if_neg h]; rfl
theorem at_cond (I P : Int) : (places S L T C D).findIdx? (· == (8, I, 0, P)) = if 0 ≤ I ∧ I < C ∧ 0 ≤ P ∧ P < 6 then some (2 + S + L * 6 + T * 2 + T * (L * 2) + T + (P.toNat + I.toNat * 6)) else none := by
  rw [find_places, find_other2 kind0 (by simp) (by simp), blkC_find, find_other (kindS S) (by simp), find_other (kindL L) (by simp), find_other (kindT T) (by simp), find_other (kindN L T) (by simp), find_other (kindF T) (by simp), find_other2 (kindD D) (by simp) (by simp)]
  split
  · simp <;> omega
  · rfl
theorem at_data (I : Int) : (places S L T C D).findIdx? (· == (9, I, 0, 0)) = if 0 ≤ I ∧ I < D then some (2 + S + L * 6 + T * 2 + T * (L * 2) + T + C * 6 + I.toNat * 2) else none := by
  rw [find_places, find_other2 kind0 (by simp) (by simp), blkD_find9, find_other (kindS S) (by simp), find_other (kindL L) (by simp), find_other (kindT T) (by simp), find_other (kindN L T) (by simp), find_other (kindF T) (by simp), find_other (kindC C) (by simp)]
  split
  · simp [Nat.add_comm]
  · rfl
theorem at_owner (I : Int) : (places S L T C D).findIdx? (· == (10, I, 0, 0)) = if 0 ≤ I ∧ I < D then some (2 + S + L * 6 + T * 2 + T * (L * 2) + T + C * 6 + (1 + I.toNat * 2)) else none := by
  rw [find_places, find_other2 kind0 (by simp) (by simp), blkD_find10, find_other (kindS S) (by simp), find_other (kindL L) (by simp), find_other (kindT T) (by simp), find_other (kindN L T) (by simp), find_other (kindF T) (by simp), find_other (kindC C) (by simp)]
  split
  · simp <;> omega
  · rfl
end
/-- the document's list of a map's places -/
def placesM (m : MapS) : List Pl := if mayB m then places m.s.toNat m.l.toNat m.t.toNat m.c.toNat m.d.toNat else []
theorem idx_nil (q : Pl) : idx [] q = -1 := rfl
theorem tl_nat {m : MapS} (h : May m) : ((m.t.toNat * (m.l.toNat * 2) : Nat) : Int) = 2 * m.t * m.l := by
  have e1 : (m.t.toNat : Int) = m.t := Int.toNat_of_nonneg (by have := h.t1; omega)
  have e2 : (m.l.toNat : Int) = m.l := Int.toNat_of_nonneg h.l1
  rw [Int.natCast_mul, Int.natCast_mul, e1, e2, Int.mul_comm m.l, ← Int.mul_assoc, Int.mul_comm m.t]
  rfl
theorem placesM_len (m : MapS) : ((placesM m).length : Int) = sizeP m := by
  unfold placesM sizeP
  cases hm : mayB m with
  | false => rfl
  | true =>
    have h := may_of hm
    have hn := tl_nat h
    obtain ⟨h1, h2, h3, h4, h5, h6, h7, h8, h9, h10⟩ := h
    simp only [if_true, places_len]
    simp only [p7, p6, p5, p4, p3, p2, p1]
    generalize m.t.toNat * (m.l.toNat * 2) = x at *
    generalize 2 * m.t * m.l = y at *
    omega
theorem idx_clock (m : MapS) : idx (placesM m) (1, 0, 0, 0) = clockP m := by
  unfold placesM clockP
  cases hm : mayB m with
  | false => rfl
  | true => exact idx_some (at_clock _ _ _ _ _)
theorem idx_seq (m : MapS) : idx (placesM m) (2, 0, 0, 0) = seqP m := by
  unfold placesM seqP
  cases hm : mayB m with
  | false => rfl
  | true => exact idx_some (at_seq _ _ _ _ _)
theorem idx_stripe (m : MapS) (i : Int) : idx (placesM m) (3, i, 0, 0) = stripeP m i := by
  unfold placesM stripeP
  cases hm : mayB m with
  | false => rfl
  | true =>
    obtain ⟨h1, h2, h3, h4, h5, h6, h7, h8, h9, h10⟩ := may_of hm
    by_cases h : 0 ≤ i ∧ i < m.s
    · rw [if_pos rfl, idx_some ((at_stripe _ _ _ _ _ i).trans (if_pos (by omega))), inB_of h.1 h.2]; simp; omega
    · rw [if_pos rfl, idx_none ((at_stripe _ _ _ _ _ i).trans (if_neg (by omega))), inB_not h]; rfl
theorem idx_lock (m : MapS) (l p : Int) : idx (placesM m) (4, l, 0, p) = lockP m l p := by
  unfold placesM lockP
  cases hm : mayB m with
  | false => rfl
  | true =>
    obtain ⟨h1, h2, h3, h4, h5, h6, h7, h8, h9, h10⟩ := may_of hm
    by_cases h : 0 ≤ l ∧ l < m.l
    · by_cases h' : 0 ≤ p ∧ p < 6
      · rw [if_pos rfl, idx_some ((at_lock _ _ _ _ _ l p).trans (if_pos (by omega))), inB_of h.1 h.2, inB_of h'.1 h'.2]; simp [p1]; omega
      · rw [if_pos rfl, idx_none ((at_lock _ _ _ _ _ l p).trans (if_neg (by omega))), inB_not h', Bool.and_false]; rfl
    · rw [if_pos rfl, idx_none ((at_lock _ _ _ _ _ l p).trans (if_neg (by omega))), inB_not h]; rfl
theorem idx_thread (m : MapS) (t p : Int) : idx (placesM m) (5, t, 0, p) = threadP m t p := by
  unfold placesM threadP
  cases hm : mayB m with
  | false => rfl
  | true =>
    obtain ⟨h1, h2, h3, h4, h5, h6, h7, h8, h9, h10⟩ := may_of hm
    by_cases h : 0 ≤ t ∧ t < m.t
    · by_cases h' : 0 ≤ p ∧ p < 2
      · rw [if_pos rfl, idx_some ((at_thread _ _ _ _ _ t p).trans (if_pos (by omega))), inB_of h.1 h.2, inB_of h'.1 h'.2]; simp [p2, p1]; omega
      · rw [if_pos rfl, idx_none ((at_thread _ _ _ _ _ t p).trans (if_neg (by omega))), inB_not h', Bool.and_false]; rfl
    · rw [if_pos rfl, idx_none ((at_thread _ _ _ _ _ t p).trans (if_neg (by omega))), inB_not h]; rfl
theorem idx_node (m : MapS) (t l p : Int) : idx (placesM m) (6, t, l, p) = nodeP m t l p := by
  unfold placesM nodeP
  cases hm : mayB m with
  | false => rfl
  | true =>
    obtain ⟨h1, h2, h3, h4, h5, h6, h7, h8, h9, h10⟩ := may_of hm
    by_cases h : 0 ≤ t ∧ t < m.t
    · by_cases hl : 0 ≤ l ∧ l < m.l
      · by_cases h' : 0 ≤ p ∧ p < 2
        · rw [if_pos rfl, idx_some ((at_node _ _ _ _ _ t l p).trans (if_pos (by omega))), inB_of h.1 h.2, inB_of hl.1 hl.2, inB_of h'.1 h'.2]
          have e : ((t.toNat * (m.l.toNat * 2) : Nat) : Int) = 2 * (t * m.l) := by
            have e1 : (t.toNat : Int) = t := Int.toNat_of_nonneg h.1
            have e2 : (m.l.toNat : Int) = m.l := Int.toNat_of_nonneg h3
            rw [Int.natCast_mul, Int.natCast_mul, e1, e2, ← Int.mul_assoc, Int.mul_comm]; rfl
          simp only [p3, p2, p1, Bool.and_self, if_true]
          generalize t.toNat * (m.l.toNat * 2) = x at *
          generalize t * m.l = y at *
          omega
        · rw [if_pos rfl, idx_none ((at_node _ _ _ _ _ t l p).trans (if_neg (by omega))), inB_not h', Bool.and_false]; rfl
      · rw [if_pos rfl, idx_none ((at_node _ _ _ _ _ t l p).trans (if_neg (by omega))), inB_not hl]; simp
    · rw [if_pos rfl, idx_none ((at_node _ _ _ _ _ t l p).trans (if_neg (by omega))), inB_not h]; rfl
theorem idx_flag (m : MapS) (t : Int) : idx (placesM m) (7, t, 0, 0) = flagP m t := by
  unfold placesM flagP
  cases hm : mayB m with
  | false => rfl
  | true =>
    have hn := tl_nat (may_of hm)
    obtain ⟨h1, h2, h3, h4, h5, h6, h7, h8, h9, h10⟩ := may_of hm
    by_cases h : 0 ≤ t ∧ t < m.t
    · rw [if_pos rfl, idx_some ((at_flag _ _ _ _ _ t).trans (if_pos (by omega))), inB_of h.1 h.2]
      simp only [p4, p3, p2, p1, Bool.and_self, if_true]
      generalize m.t.toNat * (m.l.toNat * 2) = x at *
      generalize 2 * m.t * m.l = y at *
      omega
    · rw [if_pos rfl, idx_none ((at_flag _ _ _ _ _ t).trans (if_neg (by omega))), inB_not h]; rfl
theorem idx_cond (m : MapS) (c p : Int) : idx (placesM m) (8, c, 0, p) = condP m c p := by
  unfold placesM condP
  cases hm : mayB m with
  | false => rfl
  | true =>
    have hn := tl_nat (may_of hm)
    obtain ⟨h1, h2, h3, h4, h5, h6, h7, h8, h9, h10⟩ := may_of hm
    by_cases h : 0 ≤ c ∧ c < m.c
    · by_cases h' : 0 ≤ p ∧ p < 6
      · rw [if_pos rfl, idx_some ((at_cond _ _ _ _ _ c p).trans (if_pos (by omega))), inB_of h.1 h.2, inB_of h'.1 h'.2]
        simp only [p5, p4, p3, p2, p1, Bool.and_self, if_true]
        generalize m.t.toNat * (m.l.toNat * 2) = x at *
        generalize 2 * m.t * m.l = y at *
        omega
      · rw [if_pos rfl, idx_none ((at_cond _ _ _ _ _ c p).trans (if_neg (by omega))), inB_not h', Bool.and_false]; rfl
    · rw [if_pos rfl, idx_none ((at_cond _ _ _ _ _ c p).trans (if_neg (by omega))), inB_not h]; rfl
theorem idx_data (m : MapS) (d : Int) : idx (placesM m) (9, d, 0, 0) = dataP m d := by
  unfold placesM dataP
  cases hm : mayB m with
  | false => rfl
  | true =>
    have hn := tl_nat (may_of hm)
    obtain ⟨h1, h2, h3, h4, h5, h6, h7, h8, h9, h10⟩ := may_of hm
    by_cases h : 0 ≤ d ∧ d < m.d
    · rw [if_pos rfl, idx_some ((at_data _ _ _ _ _ d).trans (if_pos (by omega))), inB_of h.1 h.2]
      simp only [p6, p5, p4, p3, p2, p1, Bool.and_self, if_true]
      generalize m.t.toNat * (m.l.toNat * 2) = x at *
      generalize 2 * m.t * m.l = y at *
      omega
    · rw [if_pos rfl, idx_none ((at_data _ _ _ _ _ d).trans (if_neg (by omega))), inB_not h]; rfl
theorem idx_owner (m : MapS) (d : Int) : idx (placesM m) (10, d, 0, 0) = ownerP m d := by
  unfold placesM ownerP
  cases hm : mayB m with
  | false => rfl
  | true =>
    have hn := tl_nat (may_of hm)
    obtain ⟨h1, h2, h3, h4, h5, h6, h7, h8, h9, h10⟩ := may_of hm
    by_cases h : 0 ≤ d ∧ d < m.d
    · rw [if_pos rfl, idx_some ((at_owner _ _ _ _ _ d).trans (if_pos (by omega))), inB_of h.1 h.2]
      simp only [p6, p5, p4, p3, p2, p1, Bool.and_self, if_true]
      generalize m.t.toNat * (m.l.toNat * 2) = x at *
      generalize 2 * m.t * m.l = y at *
      omega
    · rw [if_pos rfl, idx_none ((at_owner _ _ _ _ _ d).trans (if_neg (by omega))), inB_not h]; rfl
end Go.Proofs.YtlcmnhfiggkmnaaGreat
