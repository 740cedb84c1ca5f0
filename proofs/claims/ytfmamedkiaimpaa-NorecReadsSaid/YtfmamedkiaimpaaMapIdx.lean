/- Maps of places: where each word stands; the document's list of places. No program in sight. -/
import Derived.Lib.Hide
namespace Go.Proofs.Ytfmamedkiaimpaa

/-- how many there are of each -/
structure MapS where
  s : Int
  l : Int
  t : Int
  c : Int
  d : Int
def inB (i n : Int) : Bool := decide (0 ≤ i) && decide (i < n)
theorem inB_true {i n : Int} (h : inB i n = true) : 0 ≤ i ∧ i < n := by simpa [inB] using h
theorem inB_of {i n : Int} (h : 0 ≤ i) (h' : i < n) : inB i n = true := by simp [inB, h, h']
theorem inB_not {i n : Int} (h : ¬ (0 ≤ i ∧ i < n)) : inB i n = false := by
  cases hb : inB i n with
  | false => rfl
  | true => exact absurd (inB_true hb) h
def mayB (m : MapS) : Bool := decide (1 ≤ m.s) && decide (m.s ≤ 16) && inB m.l 5 && decide (1 ≤ m.t) && decide (m.t ≤ 4) && inB m.c 5 && inB m.d 33
/-- a map that may be -/
structure May (m : MapS) : Prop where
  s1 : 1 ≤ m.s
  s2 : m.s ≤ 16
  l1 : 0 ≤ m.l
  l2 : m.l ≤ 4
  t1 : 1 ≤ m.t
  t2 : m.t ≤ 4
  c1 : 0 ≤ m.c
  c2 : m.c ≤ 4
  d1 : 0 ≤ m.d
  d2 : m.d ≤ 32
theorem may_of {m : MapS} (h : mayB m = true) : May m := by
  simp only [mayB, inB, Bool.and_eq_true, decide_eq_true_eq] at h
  constructor <;> omega
theorem of_may {m : MapS} (h : May m) : mayB m = true := by
  obtain ⟨h1, h2, h3, h4, h5, h6, h7, h8, h9, h10⟩ := h
  simp only [mayB, inB, Bool.and_eq_true, decide_eq_true_eq]
  omega
def p1 (m : MapS) : Int := 2 + m.s
def p2 (m : MapS) : Int := p1 m + 6 * m.l
def p3 (m : MapS) : Int := p2 m + 2 * m.t
def p4 (m : MapS) : Int := p3 m + 2 * m.t * m.l
def p5 (m : MapS) : Int := p4 m + m.t
def p6 (m : MapS) : Int := p5 m + 6 * m.c
def p7 (m : MapS) : Int := p6 m + 2 * m.d
theorem tl_bd {m : MapS} (h : May m) : 0 ≤ m.t * m.l ∧ m.t * m.l ≤ 16 := by
  obtain ⟨h1, h2, h3, h4, h5, h6, h7, h8, h9, h10⟩ := h
  constructor
  · exact Int.mul_nonneg (by omega) h3
  · have := Int.mul_le_mul h6 h4 h3 (by omega); omega
theorem ttl_bd {m : MapS} (h : May m) : 0 ≤ 2 * m.t * m.l ∧ 2 * m.t * m.l ≤ 32 := by
  have := tl_bd h
  rw [Int.mul_assoc]; omega
/-- the bounds of the starts, for walks -/
theorem starts_bd {m : MapS} (h : May m) : 3 ≤ p1 m ∧ p1 m ≤ 18 ∧ p1 m ≤ p2 m ∧ p2 m ≤ 42 ∧ p2 m + 2 ≤ p3 m ∧ p3 m ≤ 50 ∧ p3 m ≤ p4 m ∧ p4 m ≤ 82 ∧ p4 m + 1 ≤ p5 m ∧ p5 m ≤ 86 ∧ p5 m ≤ p6 m ∧ p6 m ≤ 110 ∧ p6 m ≤ p7 m ∧ p7 m ≤ 174 := by
  have hq := ttl_bd h
  obtain ⟨h1, h2, h3, h4, h5, h6, h7, h8, h9, h10⟩ := h
  simp only [p7, p6, p5, p4, p3, p2, p1]
  omega
def sizeP (m : MapS) : Int := if mayB m then p7 m else 0
def clockP (m : MapS) : Int := if mayB m then 0 else -1
def seqP (m : MapS) : Int := if mayB m then 1 else -1
def stripeP (m : MapS) (i : Int) : Int := if mayB m && inB i m.s then 2 + i else -1
def lockP (m : MapS) (l p : Int) : Int := if mayB m && inB l m.l && inB p 6 then p1 m + 6 * l + p else -1
def threadP (m : MapS) (t p : Int) : Int := if mayB m && inB t m.t && inB p 2 then p2 m + 2 * t + p else -1
def nodeP (m : MapS) (t l p : Int) : Int := if mayB m && inB t m.t && inB l m.l && inB p 2 then p3 m + 2 * (t * m.l + l) + p else -1
def flagP (m : MapS) (t : Int) : Int := if mayB m && inB t m.t then p4 m + t else -1
def condP (m : MapS) (c p : Int) : Int := if mayB m && inB c m.c && inB p 6 then p5 m + 6 * c + p else -1
def dataP (m : MapS) (d : Int) : Int := if mayB m && inB d m.d then p6 m + 2 * d else -1
def ownerP (m : MapS) (d : Int) : Int := if mayB m && inB d m.d then p6 m + 2 * d + 1 else -1

/-- a place, as the document lists it: its kind, which one, which other one, which part -/
abbrev Pl := Int × Int × Int × Int
def blkS (n : Nat) : List Pl := (List.range n).map fun i : Nat => (3, (i : Int), 0, 0)
def rowL (i k : Nat) : List Pl := (List.range k).map fun j : Nat => (4, (i : Int), 0, (j : Int))
def blkL (n : Nat) : List Pl := (List.range n).flatMap fun i : Nat => rowL i 6
def blkT (n : Nat) : List Pl := (List.range n).flatMap fun i : Nat => [(5, (i : Int), 0, 0), (5, (i : Int), 0, 1)]
def rowN (i k : Nat) : List Pl := (List.range k).flatMap fun j : Nat => [(6, (i : Int), (j : Int), 0), (6, (i : Int), (j : Int), 1)]
def blkN (L n : Nat) : List Pl := (List.range n).flatMap fun i : Nat => rowN i L
def blkF (n : Nat) : List Pl := (List.range n).map fun i : Nat => (7, (i : Int), 0, 0)
def rowC (i k : Nat) : List Pl := (List.range k).map fun j : Nat => (8, (i : Int), 0, (j : Int))
def blkC (n : Nat) : List Pl := (List.range n).flatMap fun i : Nat => rowC i 6
def blkD (n : Nat) : List Pl := (List.range n).flatMap fun i : Nat => [(9, (i : Int), 0, 0), (10, (i : Int), 0, 0)]
def pre0 : List Pl := [(1, 0, 0, 0), (2, 0, 0, 0)]
def places (S L T C D : Nat) : List Pl := pre0 ++ blkS S ++ blkL L ++ blkT T ++ blkN L T ++ blkF T ++ blkC C ++ blkD D

theorem flat_len_c {α : Type} (w n : Nat) (row : Nat → List α) (hw : ∀ i, (row i).length = w) : ((List.range n).flatMap row).length = n * w := by
  induction n with
  | zero => simp
  | succ n ih => rw [List.range_succ, List.flatMap_append, List.length_append, ih]; simp [hw, Nat.add_mul]
theorem blkS_len (n : Nat) : (blkS n).length = n := by simp [blkS]
theorem rowL_len (i k : Nat) : (rowL i k).length = k := by simp [rowL]
theorem blkL_len (n : Nat) : (blkL n).length = n * 6 := flat_len_c 6 n _ (fun i => rowL_len i 6)
theorem blkT_len (n : Nat) : (blkT n).length = n * 2 := flat_len_c 2 n _ (fun i => rfl)
theorem rowN_len (i k : Nat) : (rowN i k).length = k * 2 := flat_len_c 2 k _ (fun i => rfl)
theorem blkN_len (L n : Nat) : (blkN L n).length = n * (L * 2) := flat_len_c (L * 2) n _ (fun i => rowN_len i L)
theorem blkF_len (n : Nat) : (blkF n).length = n := by simp [blkF]
theorem rowC_len (i k : Nat) : (rowC i k).length = k := by simp [rowC]
theorem blkC_len (n : Nat) : (blkC n).length = n * 6 := flat_len_c 6 n _ (fun i => rowC_len i 6)
theorem blkD_len (n : Nat) : (blkD n).length = n * 2 := flat_len_c 2 n _ (fun i => rfl)
theorem flat_succ {α : Type} (n : Nat) (row : Nat → List α) : (List.range (n + 1)).flatMap row = (List.range n).flatMap row ++ row n := by
  rw [List.range_succ, List.flatMap_append]; simp
theorem map_succ {α : Type} (n : Nat) (f : Nat → α) : (List.range (n + 1)).map f = (List.range n).map f ++ [f n] := by
  rw [List.range_succ, List.map_append]; rfl
theorem places_len (S L T C D : Nat) : (places S L T C D).length = 2 + S + L * 6 + T * 2 + T * (L * 2) + T + C * 6 + D * 2 := by
  simp only [places, List.length_append, blkS_len, blkL_len, blkT_len, blkN_len, blkF_len, blkC_len, blkD_len]
  rfl

/-- where a place stands in a list; -1: nowhere -/
def idx (l : List Pl) (q : Pl) : Int := match l.findIdx? (· == q) with | some i => (i : Int) | none => -1
theorem find_none {l : List Pl} {q : Pl} (h : ∀ x ∈ l, x ≠ q) : l.findIdx? (· == q) = none := by
  rw [List.findIdx?_eq_none_iff]; intro x hx; simpa using h x hx
theorem find_other {l : List Pl} {q : Pl} {k : Int} (h : ∀ x ∈ l, x.1 = k) (hk : q.1 ≠ k) : l.findIdx? (· == q) = none :=
  find_none fun x hx e => hk (by rw [← e]; exact h x hx)
theorem find_map (n : Nat) (f : Nat → Pl) (q : Pl) (j : Nat) (ok : Bool) (h : ∀ i, f i = q ↔ (ok = true ∧ i = j)) : ((List.range n).map f).findIdx? (· == q) = if ok && decide (j < n) then some j else none := by
  induction n with
  | zero => simp
  | succ n ih =>
    rw [map_succ, List.findIdx?_append, ih]
    have hn := h n
    by_cases h1 : (ok && decide (j < n)) = true
    · have h2 : ok = true ∧ j < n := by simpa using h1
      rw [if_pos h1, if_pos (by simp [h2.1]; omega)]; rfl
    · rw [if_neg h1]
      by_cases h2 : f n = q
      · obtain ⟨h3, rfl⟩ := hn.1 h2
        simp [h2, h3]
      · have h3 : ¬ (ok = true ∧ n = j) := fun e => h2 (hn.2 e)
        have h4 : (ok && decide (j < n + 1)) = false := by
          cases ok with
          | false => rfl
          | true => simp at h1 h3 ⊢; omega
        simp [h2, h4]
theorem find_flat (w n : Nat) (row : Nat → List Pl) (q : Pl) (j : Nat) (r : Option Nat) (hw : ∀ i, (row i).length = w) (h : ∀ i, i ≠ j → (row i).findIdx? (· == q) = none) (hj : (row j).findIdx? (· == q) = r) :
    ((List.range n).flatMap row).findIdx? (· == q) = if j < n then r.map (· + j * w) else none := by
  induction n with
  | zero => simp
  | succ n ih =>
    rw [flat_succ, List.findIdx?_append, ih, flat_len_c w n row hw]
    by_cases h1 : j < n
    · rw [if_pos h1, if_pos (by omega), h n (by omega)]
      cases r <;> rfl
    · rw [if_neg h1]
      by_cases h2 : n = j
      · subst h2
        rw [if_pos (by omega), hj]
        rfl
      · rw [if_neg (by omega), h n h2]; rfl
theorem find_flat_no (n : Nat) (row : Nat → List Pl) (q : Pl) (h : ∀ i, (row i).findIdx? (· == q) = none) : ((List.range n).flatMap row).findIdx? (· == q) = none := by
  induction n with
  | zero => simp
  | succ n ih => rw [flat_succ, List.findIdx?_append, ih, h n]; rfl
theorem kindS (n : Nat) : ∀ x ∈ blkS n, x.1 = 3 := by intro x hx; simp [blkS] at hx; obtain ⟨i, _, rfl⟩ := hx; rfl
theorem kindRL (i k : Nat) : ∀ x ∈ rowL i k, x.1 = 4 := by intro x hx; simp [rowL] at hx; obtain ⟨j, _, rfl⟩ := hx; rfl
theorem kindL (n : Nat) : ∀ x ∈ blkL n, x.1 = 4 := by
  intro x hx; simp only [blkL, List.mem_flatMap] at hx; obtain ⟨i, _, hi⟩ := hx; exact kindRL i 6 x hi
theorem kindT (n : Nat) : ∀ x ∈ blkT n, x.1 = 5 := by
  intro x hx; simp only [blkT, List.mem_flatMap, List.mem_cons, List.not_mem_nil, or_false] at hx; obtain ⟨i, _, rfl | rfl⟩ := hx <;> rfl
theorem kindRN (i k : Nat) : ∀ x ∈ rowN i k, x.1 = 6 := by
  intro x hx; simp only [rowN, List.mem_flatMap, List.mem_cons, List.not_mem_nil, or_false] at hx; obtain ⟨i, _, rfl | rfl⟩ := hx <;> rfl
theorem kindN (L n : Nat) : ∀ x ∈ blkN L n, x.1 = 6 := by
  intro x hx; simp only [blkN, List.mem_flatMap] at hx; obtain ⟨i, _, hi⟩ := hx; exact kindRN i L x hi
theorem kindF (n : Nat) : ∀ x ∈ blkF n, x.1 = 7 := by intro x hx; simp [blkF] at hx; obtain ⟨i, _, rfl⟩ := hx; rfl
theorem kindRC (i k : Nat) : ∀ x ∈ rowC i k, x.1 = 8 := by intro x hx; simp [rowC] at hx; obtain ⟨j, _, rfl⟩ := hx; rfl
theorem kindC (n : Nat) : ∀ x ∈ blkC n, x.1 = 8 := by
  intro x hx; simp only [blkC, List.mem_flatMap] at hx; obtain ⟨i, _, hi⟩ := hx; exact kindRC i 6 x hi
theorem kindD (n : Nat) : ∀ x ∈ blkD n, x.1 = 9 ∨ x.1 = 10 := by
  intro x hx; simp only [blkD, List.mem_flatMap, List.mem_cons, List.not_mem_nil, or_false] at hx; obtain ⟨i, _, rfl | rfl⟩ := hx <;> simp
theorem kind0 : ∀ x ∈ pre0, x.1 = 1 ∨ x.1 = 2 := by
  intro x hx; simp only [pre0, List.mem_cons, List.not_mem_nil, or_false] at hx; rcases hx with rfl | rfl <;> simp
theorem find_other2 {l : List Pl} {q : Pl} {k k' : Int} (h : ∀ x ∈ l, x.1 = k ∨ x.1 = k') (hk : q.1 ≠ k) (hk' : q.1 ≠ k') : l.findIdx? (· == q) = none :=
  find_none fun x hx e => by rcases h x hx with h | h <;> rw [e] at h <;> contradiction
theorem none_or' {α : Type} (o : Option α) : (none.or o) = o := rfl
theorem none_map' {α β : Type} (f : α → β) : Option.map f none = none := rfl
/-- what no other block holds -/
theorem find_places (S L T C D : Nat) (q : Pl) : (places S L T C D).findIdx? (· == q) =
    (((((((pre0.findIdx? (· == q)).or (((blkS S).findIdx? (· == q)).map (· + 2))).or (((blkL L).findIdx? (· == q)).map (· + (2 + S)))).or (((blkT T).findIdx? (· == q)).map (· + (2 + S + L * 6)))).or
      (((blkN L T).findIdx? (· == q)).map (· + (2 + S + L * 6 + T * 2)))).or (((blkF T).findIdx? (· == q)).map (· + (2 + S + L * 6 + T * 2 + T * (L * 2))))).or
      (((blkC C).findIdx? (· == q)).map (· + (2 + S + L * 6 + T * 2 + T * (L * 2) + T)))).or (((blkD D).findIdx? (· == q)).map (· + (2 + S + L * 6 + T * 2 + T * (L * 2) + T + C * 6))) := by
  have h0 : pre0.length = 2 := rfl
  simp only [places, List.findIdx?_append, List.length_append, h0, blkS_len, blkL_len, blkT_len, blkN_len, blkF_len, blkC_len]
end Go.Proofs.Ytfmamedkiaimpaa
namespace Go.Proofs.Ytfmamedkiaimpaa

theorem idx_some {l : List Pl} {q : Pl} {n : Nat} (h : l.findIdx? (· == q) = some n) : idx l q = (n : Int) := by simp [idx, h]
theorem idx_none {l : List Pl} {q : Pl} (h : l.findIdx? (· == q) = none) : idx l q = -1 := by simp [idx, h]
theorem blkS_find (n : Nat) (I : Int) : (blkS n).findIdx? (· == (3, I, 0, 0)) = if decide (0 ≤ I) && decide (I.toNat < n) then some I.toNat else none :=
  find_map n _ _ I.toNat (decide (0 ≤ I)) (fun i => by simp only [Prod.mk.injEq, decide_eq_true_eq, and_true, true_and]; omega)
theorem blkF_find (n : Nat) (I : Int) : (blkF n).findIdx? (· == (7, I, 0, 0)) = if decide (0 ≤ I) && decide (I.toNat < n) then some I.toNat else none :=
  find_map n _ _ I.toNat (decide (0 ≤ I)) (fun i => by simp only [Prod.mk.injEq, decide_eq_true_eq, and_true, true_and]; omega)
theorem rowL_find (i k : Nat) (I P : Int) : (rowL i k).findIdx? (· == (4, I, 0, P)) = if decide ((i : Int) = I ∧ 0 ≤ P) && decide (P.toNat < k) then some P.toNat else none :=
  find_map k _ _ P.toNat (decide ((i : Int) = I ∧ 0 ≤ P)) (fun j => by simp only [Prod.mk.injEq, decide_eq_true_eq, and_true, true_and]; omega)
theorem rowC_find (i k : Nat) (I P : Int) : (rowC i k).findIdx? (· == (8, I, 0, P)) = if decide ((i : Int) = I ∧ 0 ≤ P) && decide (P.toNat < k) then some P.toNat else none :=
  find_map k _ _ P.toNat (decide ((i : Int) = I ∧ 0 ≤ P)) (fun j => by simp only [Prod.mk.injEq, decide_eq_true_eq, and_true, true_and]; omega)
theorem blkL_find (n : Nat) (I P : Int) : (blkL n).findIdx? (· == (4, I, 0, P)) = if 0 ≤ I ∧ I < n ∧ 0 ≤ P ∧ P < 6 then some (P.toNat + I.toNat * 6) else none := by
  by_cases h0 : 0 ≤ I
  · obtain ⟨i, rfl⟩ := Int.eq_ofNat_of_zero_le h0
    rw [blkL, find_flat 6 n _ _ i _ (fun j => rowL_len j 6) (fun j hj => by rw [rowL_find, if_neg (by simp; omega)]) (rowL_find i 6 _ P)]
    by_cases h1 : i < n
    · by_cases h2 : 0 ≤ P ∧ P < 6
      · rw [if_pos h1, if_pos (by simp; omega), if_pos (by omega)]; simp
      · rw [if_pos h1, if_neg (by simp; omega), if_neg (by omega)]; rfl
    · rw [if_neg h1, if_neg (by omega)]
  · rw [blkL, find_flat_no n _ _ (fun j => by rw [rowL_find, if_neg (by simp; omega)]), if_neg (by omega)]
theorem blkC_find (n : Nat) (I P : Int) : (blkC n).findIdx? (· == (8, I, 0, P)) = if 0 ≤ I ∧ I < n ∧ 0 ≤ P ∧ P < 6 then some (P.toNat + I.toNat * 6) else none := by
  by_cases h0 : 0 ≤ I
  · obtain ⟨i, rfl⟩ := Int.eq_ofNat_of_zero_le h0
    rw [blkC, find_flat 6 n _ _ i _ (fun j => rowC_len j 6) (fun j hj => by rw [rowC_find, if_neg (by simp; omega)]) (rowC_find i 6 _ P)]
    by_cases h1 : i < n
    · by_cases h2 : 0 ≤ P ∧ P < 6
      · rw [if_pos h1, if_pos (by simp; omega), if_pos (by omega)]; simp
      · rw [if_pos h1, if_neg (by simp; omega), if_neg (by omega)]; rfl
    · rw [if_neg h1, if_neg (by omega)]
  · rw [blkC, find_flat_no n _ _ (fun j => by rw [rowC_find, if_neg (by simp; omega)]), if_neg (by omega)]
theorem two_find (a b : Pl) (q : Pl) : [a, b].findIdx? (· == q) = if a = q then some 0 else if b = q then some 1 else none := by
  by_cases h1 : a = q <;> by_cases h2 : b = q <;> simp [List.findIdx?_cons, h1, h2]
theorem blkT_find (n : Nat) (I P : Int) : (blkT n).findIdx? (· == (5, I, 0, P)) = if 0 ≤ I ∧ I < n ∧ 0 ≤ P ∧ P < 2 then some (P.toNat + I.toNat * 2) else none := by
  by_cases h0 : 0 ≤ I
  · obtain ⟨i, rfl⟩ := Int.eq_ofNat_of_zero_le h0
    rw [blkT, find_flat 2 n _ _ i _ (fun j => rfl) (fun j hj => by rw [two_find, if_neg (by simp; omega), if_neg (by simp; omega)]) (two_find _ _ _)]
    by_cases h1 : i < n
    · by_cases h2 : 0 = P
      · subst h2; rw [if_pos h1, if_pos (by simp), if_pos (by omega)]; simp
      · by_cases h3 : 1 = P
        · subst h3; rw [if_pos h1, if_neg (by simp), if_pos (by simp), if_pos (by omega)]; simp
        · rw [if_pos h1, if_neg (by simp; omega), if_neg (by simp; omega), if_neg (by omega)]; rfl
    · rw [if_neg h1, if_neg (by omega)]
  · rw [blkT, find_flat_no n _ _ (fun j => by rw [two_find, if_neg (by simp; omega), if_neg (by simp; omega)]), if_neg (by omega)]
theorem rowN_find (a k : Nat) (I J P : Int) : (rowN a k).findIdx? (· == (6, I, J, P)) = if (a : Int) = I ∧ 0 ≤ J ∧ J < k ∧ 0 ≤ P ∧ P < 2 then some (P.toNat + J.toNat * 2) else none := by
  by_cases h0 : 0 ≤ J
  · obtain ⟨i, rfl⟩ := Int.eq_ofNat_of_zero_le h0
    rw [rowN, find_flat 2 k _ _ i _ (fun j => rfl) (fun j hj => by rw [two_find, if_neg (by simp; omega), if_neg (by simp; omega)]) (two_find _ _ _)]
    by_cases h1 : i < k
    · by_cases h4 : (a : Int) = I
      · subst h4
        by_cases h2 : 0 = P
        · subst h2; rw [if_pos h1, if_pos (by simp), if_pos (by omega)]; simp
        · by_cases h3 : 1 = P
          · subst h3; rw [if_pos h1, if_neg (by simp), if_pos (by simp), if_pos (by omega)]; simp
          · rw [if_pos h1, if_neg (by simp; omega), if_neg (by simp; omega), if_neg (by omega)]; rfl
      · rw [if_pos h1, if_neg (by simp; omega), if_neg (by simp; omega), if_neg (by omega)]; rfl
    · rw [if_neg h1, if_neg (by omega)]
  · rw [rowN, find_flat_no k _ _ (fun j => by rw [two_find, if_neg (by simp; omega), if_neg (by simp; omega)]), if_neg (by omega)]
theorem blkN_find (L n : Nat) (I J P : Int) : (blkN L n).findIdx? (· == (6, I, J, P)) = if 0 ≤ I ∧ I < n ∧ 0 ≤ J ∧ J < L ∧ 0 ≤ P ∧ P < 2 then some (P.toNat + J.toNat * 2 + I.toNat * (L * 2)) else none := by
  by_cases h0 : 0 ≤ I
  · obtain ⟨i, rfl⟩ := Int.eq_ofNat_of_zero_le h0
    rw [blkN, find_flat (L * 2) n _ _ i _ (fun j => rowN_len j L) (fun j hj => by rw [rowN_find, if_neg (by omega)]) (rowN_find _ _ _ _ _)]
    by_cases h1 : i < n
    · by_cases h2 : 0 ≤ J ∧ J < L ∧ 0 ≤ P ∧ P < 2
      · rw [if_pos h1, if_pos (by omega), if_pos (by omega)]; simp
      · rw [if_pos h1, if_neg (by omega), if_neg (by omega)]; rfl
    · rw [if_neg h1, if_neg (by omega)]
  · rw [blkN, find_flat_no n _ _ (fun j => by rw [rowN_find, if_neg (by omega)]), if_neg (by omega)]
theorem blkD_find9 (n : Nat) (I : Int) : (blkD n).findIdx? (· == (9, I, 0, 0)) = if 0 ≤ I ∧ I < n then some (I.toNat * 2) else none := by
  by_cases h0 : 0 ≤ I
  · obtain ⟨i, rfl⟩ := Int.eq_ofNat_of_zero_le h0
    rw [blkD, find_flat 2 n _ _ i _ (fun j => rfl) (fun j hj => by rw [two_find, if_neg (by simp; omega), if_neg (by simp)]) (two_find _ _ _)]
    by_cases h1 : i < n
    · rw [if_pos h1, if_pos (by simp), if_pos (by omega)]; simp
    · rw [if_neg h1, if_neg (by omega)]
  · rw [blkD, find_flat_no n _ _ (fun j => by rw [two_find, if_neg (by simp; omega), if_neg (by simp)]), if_neg (by omega)]
theorem blkD_find10 (n : Nat) (I : Int) : (blkD n).findIdx? (· == (10, I, 0, 0)) = if 0 ≤ I ∧ I < n then some (1 + I.toNat * 2) else none := by
  by_cases h0 : 0 ≤ I
  · obtain ⟨i, rfl⟩ := Int.eq_ofNat_of_zero_le h0
    rw [blkD, find_flat 2 n _ _ i _ (fun j => rfl) (fun j hj => by rw [two_find, if_neg (by simp), if_neg (by simp; omega)]) (two_find _ _ _)]
    by_cases h1 : i < n
    · rw [if_pos h1, if_neg (by simp), if_pos (by simp), if_pos (by omega)]; simp
    · rw [if_neg h1, if_neg (by omega)]
  · rw [blkD, find_flat_no n _ _ (fun j => by rw [two_find, if_neg (by simp), if_neg (by simp; omega)]), if_neg (by omega)]

section
variable (S L T C D : Nat)
theorem at_clock : (places S L T C D).findIdx? (· == (1, 0, 0, 0)) = some 0 := by
  rw [find_places, show pre0.findIdx? (· == (1, 0, 0, 0)) = some 0 from rfl]; rfl
theorem at_seq : (places S L T C D).findIdx? (· == (2, 0, 0, 0)) = some 1 := by
  rw [find_places, show pre0.findIdx? (· == (2, 0, 0, 0)) = some 1 from rfl]; rfl
theorem at_stripe (I : Int) : (places S L T C D).findIdx? (· == (3, I, 0, 0)) = if 0 ≤ I ∧ I < S then some (2 + I.toNat) else none := by
  rw [find_places, find_other2 kind0 (by simp) (by simp), blkS_find, find_other (kindL L) (by simp), find_other (kindT T) (by simp), find_other (kindN L T) (by simp), find_other (kindF T) (by simp), find_other (kindC C) (by simp), find_other2 (kindD D) (by simp) (by simp)]
  by_cases h : 0 ≤ I ∧ I < S
  · rw [if_pos (by simp; omega), if_pos h]; simp [Nat.add_comm]
  · rw [if_neg (by simp; omega), if_neg h]; rfl
theorem at_lock (I P : Int) : (places S L T C D).findIdx? (· == (4, I, 0, P)) = if 0 ≤ I ∧ I < L ∧ 0 ≤ P ∧ P < 6 then some (2 + S + (P.toNat + I.toNat * 6)) else none := by
  rw [find_places, find_other2 kind0 (by simp) (by simp), blkL_find, find_other (kindS S) (by simp), find_other (kindT T) (by simp), find_other (kindN L T) (by simp), find_other (kindF T) (by simp), find_other (kindC C) (by simp), find_other2 (kindD D) (by simp) (by simp)]
  split
  · simp <;> omega
  · rfl
theorem at_thread (I P : Int) : (places S L T C D).findIdx? (· == (5, I, 0, P)) = if 0 ≤ I ∧ I < T ∧ 0 ≤ P ∧ P < 2 then some (2 + S + L * 6 + (P.toNat + I.toNat * 2)) else none := by
  rw [find_places, find_other2 kind0 (by simp) (by simp), blkT_find, find_other (kindS S) (by simp), find_other (kindL L) (by simp), find_other (kindN L T) (by simp), find_other (kindF T) (by simp), find_other (kindC C) (by simp), find_other2 (kindD D) (by simp) (by simp)]
  split
  · simp <;> omega
  · rfl
theorem at_node (I J P : Int) : (places S L T C D).findIdx? (· == (6, I, J, P)) = if 0 ≤ I ∧ I < T ∧ 0 ≤ J ∧ J < L ∧ 0 ≤ P ∧ P < 2 then some (2 + S + L * 6 + T * 2 + (P.toNat + J.toNat * 2 + I.toNat * (L * 2))) else none := by
  rw [find_places, find_other2 kind0 (by simp) (by simp), blkN_find, find_other (kindS S) (by simp), find_other (kindL L) (by simp), find_other (kindT T) (by simp), find_other (kindF T) (by simp), find_other (kindC C) (by simp), find_other2 (kindD D) (by simp) (by simp)]
  split
  · simp <;> omega
  · rfl
theorem at_flag (I : Int) : (places S L T C D).findIdx? (· == (7, I, 0, 0)) = if 0 ≤ I ∧ I < T then some (2 + S + L * 6 + T * 2 + T * (L * 2) + I.toNat) else none := by
  rw [find_places, find_other2 kind0 (by simp) (by simp), blkF_find, find_other (kindS S) (by simp), find_other (kindL L) (by simp), find_other (kindT T) (by simp), find_other (kindN L T) (by simp), find_other (kindC C) (by simp), find_other2 (kindD D) (by simp) (by simp)]
  by_cases h : 0 ≤ I ∧ I < T
  · rw [if_pos (by simp; omega), if_pos h]; simp [Nat.add_comm]
  · rw [if_neg (by simp; omega), if_neg h]; rfl
theorem at_cond (I P : Int) : (places S L T C D).findIdx? (· == (8, I, 0, P)) = if 0 ≤ I ∧ I < C ∧ 0 ≤ P ∧ P < 6 then some (2 + S + L * 6 + T * 2 + T * (L * 2) + T + (P.toNat + I.toNat * 6)) else none := by
  rw [find_places, find_other2 kind0 (by simp) (by simp), blkC_find, find_other (kindS S) (by simp), find_other (kindL L) (by simp), find_other (kindT T) (by simp), find_other (kindN L T) (by simp), find_other (kindF T) (by simp), find_other2 (kindD D) (by simp) (by simp)]
  split
  · simp <;> omega
  · rfl
theorem at_data (I : Int) : (places S L T C D).findIdx? (· == (9, I, 0, 0)) = if 0 ≤ I ∧ I < D then some (2 + S + L * 6 + T * 2 + T * (L * 2) + T + C * 6 + I.toNat * 2) else none := by
  rw [find_places, find_other2 kind0 (by simp) (by simp), blkD_find9, find_other (kindS S) (by simp), find_other (kindL L) (by simp), find_other (kindT T) (by simp), find_other (kindN L T) (by simp), find_other (kindF T) (by simp), find_other (kindC C) (by simp)]
  split
  · simp [Nat.add_comm]
  · rfl
theorem at_owner (I : Int) : (places S L T C D).findIdx? (· == (10, I, 0, 0)) = if 0 ≤ I ∧ I < D then some (2 + S + L * 6 + T * 2 + T * (L * 2) + T + C * 6 + (1 + I.toNat * 2)) else none := by
  rw [find_places, find_other2 kind0 (by simp) (by simp), blkD_find10, find_other (kindS S) (by simp), find_other (kindL L) (by simp), find_other (kindT T) (by simp), find_other (kindN L T) (by simp), find_other (kindF T) (by simp), find_other (kindC C) (by simp)]
  split
  · simp <;> omega
  · rfl
end
/-- the document's list of a map's places -/
def placesM (m : MapS) : List Pl := if mayB m then places m.s.toNat m.l.toNat m.t.toNat m.c.toNat m.d.toNat else []
theorem idx_nil (q : Pl) : idx [] q = -1 := rfl
theorem tl_nat {m : MapS} (h : May m) : ((m.t.toNat * (m.l.toNat * 2) : Nat) : Int) = 2 * m.t * m.l := by
  have e1 : (m.t.toNat : Int) = m.t := Int.toNat_of_nonneg (by have := h.t1; omega)
  have e2 : (m.l.toNat : Int) = m.l := Int.toNat_of_nonneg h.l1
  rw [Int.natCast_mul, Int.natCast_mul, e1, e2, Int.mul_comm m.l, ← Int.mul_assoc, Int.mul_comm m.t]
  rfl
theorem placesM_len (m : MapS) : ((placesM m).length : Int) = sizeP m := by
  unfold placesM sizeP
  cases hm : mayB m with
  | false => rfl
  | true =>
    have h := may_of hm
    have hn := tl_nat h
    obtain ⟨h1, h2, h3, h4, h5, h6, h7, h8, h9, h10⟩ := h
    simp only [if_true, places_len]
    simp only [p7, p6, p5, p4, p3, p2, p1]
    generalize m.t.toNat * (m.l.toNat * 2) = x at *
    generalize 2 * m.t * m.l = y at *
    omega
theorem idx_clock (m : MapS) : idx (placesM m) (1, 0, 0, 0) = clockP m := by
  unfold placesM clockP
  cases hm : mayB m with
  | false => rfl
  | true => exact idx_some (at_clock _ _ _ _ _)
theorem idx_seq (m : MapS) : idx (placesM m) (2, 0, 0, 0) = seqP m := by
  unfold placesM seqP
  cases hm : mayB m with
  | false => rfl
  | true => exact idx_some (at_seq _ _ _ _ _)
theorem idx_stripe (m : MapS) (i : Int) : idx (placesM m) (3, i, 0, 0) = stripeP m i := by
  unfold placesM stripeP
  cases hm : mayB m with
  | false => rfl
  | true =>
    obtain ⟨h1, h2, h3, h4, h5, h6, h7, h8, h9, h10⟩ := may_of hm
    by_cases h : 0 ≤ i ∧ i < m.s
    · rw [if_pos rfl, idx_some ((at_stripe _ _ _ _ _ i).trans (if_pos (by omega))), inB_of h.1 h.2]; simp; omega
    · rw [if_pos rfl, idx_none ((at_stripe _ _ _ _ _ i).trans (if_neg (by omega))), inB_not h]; rfl
theorem idx_lock (m : MapS) (l p : Int) : idx (placesM m) (4, l, 0, p) = lockP m l p := by
  unfold placesM lockP
  cases hm : mayB m with
  | false => rfl
  | true =>
    obtain ⟨h1, h2, h3, h4, h5, h6, h7, h8, h9, h10⟩ := may_of hm
    by_cases h : 0 ≤ l ∧ l < m.l
    · by_cases h' : 0 ≤ p ∧ p < 6
      · rw [if_pos rfl, idx_some ((at_lock _ _ _ _ _ l p).trans (if_pos (by omega))), inB_of h.1 h.2, inB_of h'.1 h'.2]; simp [p1]; omega
      · rw [if_pos rfl, idx_none ((at_lock _ _ _ _ _ l p).trans (if_neg (by omega))), inB_not h', Bool.and_false]; rfl
    · rw [if_pos rfl, idx_none ((at_lock _ _ _ _ _ l p).trans (if_neg (by omega))), inB_not h]; rfl
theorem idx_thread (m : MapS) (t p : Int) : idx (placesM m) (5, t, 0, p) = threadP m t p := by
  unfold placesM threadP
  cases hm : mayB m with
  | false => rfl
  | true =>
    obtain ⟨h1, h2, h3, h4, h5, h6, h7, h8, h9, h10⟩ := may_of hm
    by_cases h : 0 ≤ t ∧ t < m.t
    · by_cases h' : 0 ≤ p ∧ p < 2
      · rw [if_pos rfl, idx_some ((at_thread _ _ _ _ _ t p).trans (if_pos (by omega))), inB_of h.1 h.2, inB_of h'.1 h'.2]; simp [p2, p1]; omega
      · rw [if_pos rfl, idx_none ((at_thread _ _ _ _ _ t p).trans (if_neg (by omega))), inB_not h', Bool.and_false]; rfl
    · rw [if_pos rfl, idx_none ((at_thread _ _ _ _ _ t p).trans (if_neg (by omega))), inB_not h]; rfl
theorem idx_node (m : MapS) (t l p : Int) : idx (placesM m) (6, t, l, p) = nodeP m t l p := by
  unfold placesM nodeP
  cases hm : mayB m with
  | false => rfl
  | true =>
    obtain ⟨h1, h2, h3, h4, h5, h6, h7, h8, h9, h10⟩ := may_of hm
    by_cases h : 0 ≤ t ∧ t < m.t
    · by_cases hl : 0 ≤ l ∧ l < m.l
      · by_cases h' : 0 ≤ p ∧ p < 2
        · rw [if_pos rfl, idx_some ((at_node _ _ _ _ _ t l p).trans (if_pos (by omega))), inB_of h.1 h.2, inB_of hl.1 hl.2, inB_of h'.1 h'.2]
          have e : ((t.toNat * (m.l.toNat * 2) : Nat) : Int) = 2 * (t * m.l) := by
            have e1 : (t.toNat : Int) = t := Int.toNat_of_nonneg h.1
            have e2 : (m.l.toNat : Int) = m.l := Int.toNat_of_nonneg h3
            rw [Int.natCast_mul, Int.natCast_mul, e1, e2, ← Int.mul_assoc, Int.mul_comm]; rfl
          simp only [p3, p2, p1, Bool.and_self, if_true]
          generalize t.toNat * (m.l.toNat * 2) = x at *
          generalize t * m.l = y at *
          omega
        · rw [if_pos rfl, idx_none ((at_node _ _ _ _ _ t l p).trans (if_neg (by omega))), inB_not h', Bool.and_false]; rfl
      · rw [if_pos rfl, idx_none ((at_node _ _ _ _ _ t l p).trans (if_neg (by omega))), inB_not hl]; simp
    · rw [if_pos rfl, idx_none ((at_node _ _ _ _ _ t l p).trans (if_neg (by omega))), inB_not h]; rfl
theorem idx_flag (m : MapS) (t : Int) : idx (placesM m) (7, t, 0, 0) = flagP m t := by
  unfold placesM flagP
  cases hm : mayB m with
  | false => rfl
  | true =>
    have hn := tl_nat (may_of hm)
    obtain ⟨h1, h2, h3, h4, h5, h6, h7, h8, h9, h10⟩ := may_of hm
    by_cases h : 0 ≤ t ∧ t < m.t
    · rw [if_pos rfl, idx_some ((at_flag _ _ _ _ _ t).trans (if_pos (by omega))), inB_of h.1 h.2]
      simp only [p4, p3, p2, p1, Bool.and_self, if_true]
      generalize m.t.toNat * (m.l.toNat * 2) = x at *
      generalize 2 * m.t * m.l = y at *
      omega
    · rw [if_pos rfl, idx_none ((at_flag _ _ _ _ _ t).trans (if_neg (by omega))), inB_not h]; rfl
theorem idx_cond (m : MapS) (c p : Int) : idx (placesM m) (8, c, 0, p) = condP m c p := by
  unfold placesM condP
  cases hm : mayB m with
  | false => rfl
  | true =>
    have hn := tl_nat (may_of hm)
    obtain ⟨h1, h2, h3, h4, h5, h6, h7, h8, h9, h10⟩ := may_of hm
    by_cases h : 0 ≤ c ∧ c < m.c
    · by_cases h' : 0 ≤ p ∧ p < 6
      · rw [if_pos rfl, idx_some ((at_cond _ _ _ _ _ c p).trans (if_pos (by omega))), inB_of h.1 h.2, inB_of h'.1 h'.2]
        simp only [p5, p4, p3, p2, p1, Bool.and_self, if_true]
        generalize m.t.toNat * (m.l.toNat * 2) = x at *
        generalize 2 * m.t * m.l = y at *
        omega
      · rw [if_pos rfl, idx_none ((at_cond _ _ _ _ _ c p).trans (if_neg (by omega))), inB_not h', Bool.and_false]; rfl
    · rw [if_pos rfl, idx_none ((at_cond _ _ _ _ _ c p).trans (if_neg (by omega))), inB_not h]; rfl
theorem idx_data (m : MapS) (d : Int) : idx (placesM m) (9, d, 0, 0) = dataP m d := by
  unfold placesM dataP
  cases hm : mayB m with
  | false => rfl
  | true =>
    have hn := tl_nat (may_of hm)
    obtain ⟨h1, h2, h3, h4, h5, h6, h7, h8, h9, h10⟩ := may_of hm
    by_cases h : 0 ≤ d ∧ d < m.d
    · rw [if_pos rfl, idx_some ((at_data _ _ _ _ _ d).trans (if_pos (by omega))), inB_of h.1 h.2]
      simp only [p6, p5, p4, p3, p2, p1, Bool.and_self, if_true]
      generalize m.t.toNat * (m.l.toNat * 2) = x at *
      generalize 2 * m.t * m.l = y at *
      omega
    · rw [if_pos rfl, idx_none ((at_data _ _ _ _ _ d).trans (if_neg (by omega))), inB_not h]; rfl
theorem idx_owner (m : MapS) (d : Int) : idx (placesM m) (10, d, 0, 0) = ownerP m d := by
  unfold placesM ownerP
  cases hm : mayB m with
  | false => rfl
  | true =>
    have hn := tl_nat (may_of hm)
    obtain ⟨h1, h2, h3, h4, h5, h6, h7, h8, h9, h10⟩ := may_of hm
    by_cases h : 0 ≤ d ∧ d < m.d
    · rw [if_pos rfl, idx_some ((at_owner _ _ _ _ _ d).trans (if_pos (by omega))), inB_of h.1 h.2]
      simp only [p6, p5, p4, p3, p2, p1, Bool.and_self, if_true]
      generalize m.t.toNat * (m.l.toNat * 2) = x at *
      generalize 2 * m.t * m.l = y at *
      omega
    · rw [if_pos rfl, idx_none ((at_owner _ _ _ _ _ d).trans (if_neg (by omega))), inB_not h]; rfl
end Go.Proofs.Ytfmamedkiaimpaa
