/- Sleeps, wakes and casts at two conditions: who stands where (no program in sight). -/
import Derived.Test.YtodaiogefgdcpaaCondqLaw
namespace Go.Proofs.Ytodaiogefgdcpaa
open Go.RowKit
theorem iterD_add (m : MapS) (S : MemS × RowS) (a : Nat) : ∀ b, iterD m S (a + b) = iterD m (iterD m S a) b
  | 0 => rfl
  | b + 1 => by show stepD m (iterD m S (a + b)) = stepD m _; rw [iterD_add m S a b]
/-- one of a cast: three accesses -/
theorem all3 {M : MemS} (hl : M.L.length = 43) {c t u : Nat} (hc : c < 2) (ht : t < 4) (hu : u < 4) {f l : Int} (h0 : 0 ≤ f) (h1 : f < 1000) (hs : M.word (sl20 c f) = u + 1) :
    ∃ M', iterD m20 (M, ⟨3, c, t, 2, f, l⟩) 3 = (M', ⟨3, c, t, if f + 1 = l then 9 else 2, f + 1, l⟩) ∧ (∀ j, j < 3 → ¬ (nextA m20 (iterD m20 (M, ⟨3, c, t, 2, f, l⟩) j).2).k = 0) ∧ M'.L.length = 43 ∧
      ∀ i, M'.word i = if i = 29 + 6 * c then f + 1 else if i = 25 + u then 0 else M.word i := by
  have hb := sl20_bd c hc f
  have hk : (3 : Int) = 2 ∨ (3 : Int) = 3 := .inr rfl
  have i0 : iterD m20 (M, ⟨3, c, t, 2, f, l⟩) 0 = (M, ⟨3, c, t, 2, f, l⟩) := rfl
  have i1 : iterD m20 (M, ⟨3, c, t, 2, f, l⟩) 1 = (M.load (sl20 c f), ⟨3, c, t, 10 + u, f, l⟩) := by
    show stepD m20 (iterD m20 (M, ⟨3, c, t, 2, f, l⟩) 0) = _
    rw [i0]
    refine stepD_load (by omega) (nW2 hc ht f l hk) ?_
    unfold fedR; rw [nW2 hc ht f l hk, hs, if_neg (by simp)]; dsimp only; rw [if_neg (by decide), if_neg (by decide), if_neg (by decide), if_pos rfl, if_pos ⟨by omega, by omega⟩]
    congr 1; omega
  have i2 : iterD m20 (M, ⟨3, c, t, 2, f, l⟩) 2 = ((M.load (sl20 c f)).store (25 + u) 0, ⟨3, c, t, 8, f, l⟩) := by
    show stepD m20 (iterD m20 (M, ⟨3, c, t, 2, f, l⟩) 1) = _
    rw [i1]
    refine stepD_store (by show 25 + u < M.L.length; omega) (nW10 hc ht f l hk hu) ?_
    unfold fedR; rw [nW10 hc ht f l hk hu, if_neg (by simp)]; dsimp only; rw [if_neg (by decide), if_neg (by omega), if_neg (by omega), if_neg (by omega), if_neg (by omega)]
  have hw : wrap64 (f + 1) = f + 1 := wrap64_id (by omega) (by omega)
  have i3 : iterD m20 (M, ⟨3, c, t, 2, f, l⟩) 3 = (((M.load (sl20 c f)).store (25 + u) 0).store (29 + 6 * c) (f + 1), ⟨3, c, t, if f + 1 = l then 9 else 2, f + 1, l⟩) := by
    show stepD m20 (iterD m20 (M, ⟨3, c, t, 2, f, l⟩) 2) = _
    rw [i2]
    refine stepD_store (by rw [lenQ_store]; show 29 + 6 * c < M.L.length; omega) (nW8 hc ht f l hk h0 h1) ?_
    unfold fedR; rw [nW8 hc ht f l hk h0 h1, if_neg (by simp)]; dsimp only; rw [if_neg (by decide), if_neg (by decide), if_neg (by decide), if_neg (by decide), if_pos rfl, if_pos rfl, hw]
  refine ⟨_, i3, ?_, by rw [lenQ_store, lenQ_store]; exact hl, ?_⟩
  · intro j hj
    match j, hj with
    | 0, _ => rw [i0, nW2 hc ht f l hk]; simp
    | 1, _ => rw [i1, nW10 hc ht f l hk hu]; simp
    | 2, _ => rw [i2, nW8 hc ht f l hk h0 h1]; simp
  · intro i
    have l1 : 25 + u < (M.load (sl20 c f)).L.length := by show 25 + u < M.L.length; omega
    have l2 : 29 + 6 * c < ((M.load (sl20 c f)).store (25 + u) 0).L.length := by rw [lenQ_store]; show 29 + 6 * c < M.L.length; omega
    rw [wordQ_store l2, wordQ_store l1]
    rfl
theorem all_from {c t : Nat} (hc : c < 2) (ht : t < 4) : ∀ (us : List Nat) {M : MemS} (_ : M.L.length = 43) {f l : Int} (_ : 0 ≤ f) (_ : f + us.length = l) (_ : l < 1000) (_ : 0 < us.length) (_ : ∀ u ∈ us, u < 4) (_ : ∀ i, i < us.length → M.word (sl20 c (f + i)) = us.getD i 0 + 1),
    ∃ M', (iterD m20 (M, ⟨3, c, t, 2, f, l⟩) (3 * us.length)).1 = M' ∧ (nextA m20 (iterD m20 (M, ⟨3, c, t, 2, f, l⟩) (3 * us.length)).2).k = 0 ∧ (∀ j, j < 3 * us.length → ¬ (nextA m20 (iterD m20 (M, ⟨3, c, t, 2, f, l⟩) j).2).k = 0) ∧ M'.L.length = 43 ∧
      ∀ i, M'.word i = if i = 29 + 6 * c then l else if 25 ≤ i ∧ i - 25 ∈ us then 0 else M.word i := by
  intro us
  induction us with
  | nil => intro M _ f l _ _ _ h; exact absurd h (by simp)
  | cons u us ih =>
    intro M hl f l h0 hfl h1 _ hu hs
    have hs0 : M.word (sl20 c f) = u + 1 := by have := hs 0 (by simp); simpa using this
    have hu4 := hu u (by simp)
    obtain ⟨M1, e1, e2, e3, e4⟩ := all3 hl hc ht hu4 h0 (by simp at hfl; omega) hs0 (l := l)
    by_cases hus : us = []
    · subst hus
      have hl1 : f + 1 = l := by simpa using hfl
      rw [if_pos hl1] at e1
      show ∃ M', (iterD m20 (M, ⟨3, c, t, 2, f, l⟩) 3).1 = M' ∧ (nextA m20 (iterD m20 (M, ⟨3, c, t, 2, f, l⟩) 3).2).k = 0 ∧ (∀ j, j < 3 → _) ∧ _
      refine ⟨M1, by rw [e1], by rw [e1]; exact nx_none (nW9 hc ht (f + 1) l (.inr rfl)), e2, e3, fun i => ?_⟩
      rw [e4]
      by_cases ei : i = 29 + 6 * c
      · rw [if_pos ei, if_pos ei, hl1]
      · rw [if_neg ei, if_neg ei]
        by_cases ej : i = 25 + u
        · rw [if_pos ej, if_pos ⟨by omega, by rw [ej]; simp⟩]
        · rw [if_neg ej, if_neg (fun h => ej (by have := List.mem_singleton.1 h.2; omega))]
    · have hpos : 0 < us.length := List.length_pos_iff.2 hus
      have hne : ¬ f + 1 = l := by simp at hfl; omega
      rw [if_neg hne] at e1
      have hs' : ∀ i, i < us.length → M1.word (sl20 c (f + 1 + i)) = us.getD i 0 + 1 := by
        intro i hi
        have hb := sl20_bd c hc (f + 1 + i)
        rw [e4, if_neg (by omega), if_neg (by omega)]
        have := hs (i + 1) (by simp; omega)
        rw [show f + 1 + (i : Int) = f + ((i + 1 : Nat) : Int) by omega, this]
        simp
      obtain ⟨M2, g1, g2, g3, g4, g5⟩ := ih e3 (f := f + 1) (l := l) (by omega) (by simp at hfl; omega) h1 hpos (fun x hx => hu x (by simp [hx])) hs'
      have e3n : 3 * (u :: us).length = 3 + 3 * us.length := by simp; omega
      rw [e3n, iterD_add, e1]
      refine ⟨M2, g1, g2, fun j hj => ?_, g4, fun i => ?_⟩
      · by_cases h3 : j < 3
        · exact e2 j h3
        · obtain ⟨k, rfl⟩ : ∃ k, j = 3 + k := ⟨j - 3, by omega⟩
          rw [iterD_add, e1]; exact g3 k (by omega)
      · rw [g5, e4]
        by_cases ei : i = 29 + 6 * c
        · rw [if_pos ei, if_pos ei]
        · rw [if_neg ei, if_neg ei, if_neg ei]
          by_cases em : 25 ≤ i ∧ i - 25 ∈ us
          · rw [if_pos em, if_pos ⟨em.1, by simp [em.2]⟩]
          · rw [if_neg em]
            by_cases ej : i = 25 + u
            · rw [if_pos ej, if_pos ⟨by omega, by rw [ej]; simp⟩]
            · rw [if_neg ej, if_neg (fun h => by
                rcases List.mem_cons.1 h.2 with h2 | h2
                · omega
                · exact em ⟨h.1, h2⟩)]
/-- a cast at a queue that has some -/
theorem wakeAll {M : MemS} (hl : M.L.length = 43) {c t : Nat} (hc : c < 2) (ht : t < 4) {h e : Int} (us : List Nat) (hh : M.word (29 + 6 * c) = h) (he : M.word (30 + 6 * c) = e) (h0 : 0 ≤ h) (hfl : h + us.length = e) (h1 : e < 1000) (hpos : 0 < us.length) (hu : ∀ u ∈ us, u < 4) (hs : ∀ i, i < us.length → M.word (sl20 c (h + i)) = us.getD i 0 + 1) :
    ∃ M', (iterD m20 (M, startR 3 c t) (2 + 3 * us.length)).1 = M' ∧ (nextA m20 (iterD m20 (M, startR 3 c t) (2 + 3 * us.length)).2).k = 0 ∧ (∀ j, j < 2 + 3 * us.length → ¬ (nextA m20 (iterD m20 (M, startR 3 c t) j).2).k = 0) ∧ M'.L.length = 43 ∧
      ∀ i, M'.word i = if i = 29 + 6 * c then e else if 25 ≤ i ∧ i - 25 ∈ us then 0 else M.word i := by
  have hk : (3 : Int) = 2 ∨ (3 : Int) = 3 := .inr rfl
  have hne : ¬ h = e := by omega
  have i0 : iterD m20 (M, startR 3 c t) 0 = (M, ⟨3, c, t, 0, 0, 0⟩) := rfl
  have i1 : iterD m20 (M, startR 3 c t) 1 = (M.load (29 + 6 * c), ⟨3, c, t, 1, h, 0⟩) := by
    show stepD m20 (iterD m20 (M, startR 3 c t) 0) = _
    rw [i0]
    refine stepD_load (by omega) (nW0 hc ht 0 0 hk) ?_
    unfold fedR; rw [nW0 hc ht 0 0 hk, hh]; rfl
  have i2 : iterD m20 (M, startR 3 c t) 2 = ((M.load (29 + 6 * c)).load (30 + 6 * c), ⟨3, c, t, 2, h, e⟩) := by
    show stepD m20 (iterD m20 (M, startR 3 c t) 1) = _
    rw [i1]
    refine stepD_load (by show 30 + 6 * c < M.L.length; omega) (nW1 hc ht h 0 hk) ?_
    have hw : (M.load (29 + 6 * c)).word (30 + 6 * c) = e := he
    unfold fedR; rw [nW1 hc ht h 0 hk, hw, if_neg (by simp)]; dsimp only; rw [if_neg (by decide), if_neg (by decide), if_pos rfl, if_neg hne]
  obtain ⟨M2, g1, g2, g3, g4, g5⟩ := all_from hc ht us (M := (M.load (29 + 6 * c)).load (30 + 6 * c)) hl h0 hfl h1 hpos hu hs
  rw [iterD_add, i2]
  refine ⟨M2, g1, g2, fun j hj => ?_, g4, g5⟩
  by_cases h2 : j < 2
  · match j, h2 with
    | 0, _ => rw [i0, nW0 hc ht 0 0 hk]; simp
    | 1, _ => rw [i1, nW1 hc ht h 0 hk]; simp
  · obtain ⟨k, rfl⟩ : ∃ k, j = 2 + k := ⟨j - 2, by omega⟩
    rw [iterD_add, i2]; exact g3 k (by omega)
def setN {α : Type} (f : Nat → α) (t : Nat) (x : α) : Nat → α := fun k => if k = t then x else f k
theorem setN_at {α : Type} (f : Nat → α) (t : Nat) (x : α) : setN f t x t = x := by simp [setN]
theorem setN_ne {α : Type} (f : Nat → α) {t k : Nat} (x : α) (h : k ≠ t) : setN f t x k = f k := by simp [setN, h]
structure CqI (n : Nat) (M : MemS) (q : Nat → List Nat) (fl : Nat → Bool) : Prop where
  len : M.L.length = 43
  hd : ∀ c, c < 2 → 0 ≤ M.word (29 + 6 * c)
  ed : ∀ c, c < 2 → M.word (30 + 6 * c) = M.word (29 + 6 * c) + (q c).length ∧ M.word (30 + 6 * c) ≤ n
  sl : ∀ c, c < 2 → ∀ i, i < (q c).length → M.word (sl20 c (M.word (29 + 6 * c) + i)) = (q c).getD i 0 + 1
  fw : ∀ t, t < 4 → M.word (25 + t) = if fl t then 1 else 0
  fq : ∀ t, t < 4 → (fl t = true ↔ t ∈ q 0 ∨ t ∈ q 1)
  lt : ∀ c, c < 2 → ∀ t ∈ q c, t < 4
  nd : ∀ c, c < 2 → (q c).Nodup
  dj : ∀ t, t ∈ q 0 → t ∉ q 1
theorem CqI.start : CqI 0 (M0 43) (fun _ => []) (fun _ => false) := by
  have hw : ∀ i, (M0 43).word i = 0 := fun i => by
    unfold MemS.word M0 MemS.new
    rw [List.getD_eq_getElem?_getD, List.getElem?_replicate]
    split <;> rfl
  exact ⟨M0_len 43, fun c _ => by rw [hw]; decide, fun c _ => by rw [hw, hw]; simp, fun c _ i hi => absurd hi (by simp), fun t _ => by rw [hw]; rfl, fun t _ => by simp, fun c _ t ht => by simp at ht, fun c _ => by simp, fun t ht => by simp at ht⟩
theorem small4 {l : List Nat} (hlt : ∀ t ∈ l, t < 4) (hnd : l.Nodup) : l.length ≤ 4 := by
  have hsub : ∀ u ∈ l, u ∈ [0, 1, 2, 3] := by
    intro u hu
    match u, hlt u hu with
    | 0, _ => decide
    | 1, _ => decide
    | 2, _ => decide
    | 3, _ => decide
  have := hnd.length_le_of_subset hsub
  simpa using this
theorem CqI.out {n : Nat} {M : MemS} {q : Nat → List Nat} {fl : Nat → Bool} (h : CqI n M q fl) {t : Nat} (ht : t < 4) (hf : fl t = false) {c : Nat} (hc : c < 2) : t ∉ q c := by
  have := h.fq t ht
  rw [hf] at this
  match c, hc with
  | 0, _ => exact fun e => by simp [e] at this
  | 1, _ => exact fun e => by simp [e] at this
theorem sl_ne {c : Nat} {h : Int} {i j : Nat} (hij : i < j) (hj : j ≤ 3) : sl20 c (h + i) ≠ sl20 c (h + j) := by unfold sl20; omega
theorem CqI.sleep {n : Nat} {M M' : MemS} {q : Nat → List Nat} {fl : Nat → Bool} (h : CqI n M q fl) {c t : Nat} (hc : c < 2) (ht : t < 4) (hf : fl t = false) (hl : M'.L.length = 43)
    (hw : ∀ i, M'.word i = if i = 25 + t then 1 else if i = 30 + 6 * c then M.word (30 + 6 * c) + 1 else if i = sl20 c (M.word (30 + 6 * c)) then t + 1 else M.word i) : CqI (n + 1) M' (setN q c (q c ++ [t])) (setN fl t true) := by
  have hno := h.out ht hf hc
  have hl4 : (t :: q c).length ≤ 4 := small4 (fun u hu => by
    rcases List.mem_cons.1 hu with rfl | hu
    · exact ht
    · exact h.lt c hc u hu) (List.nodup_cons.2 ⟨hno, h.nd c hc⟩)
  simp only [List.length_cons] at hl4
  have hb := sl20_bd c hc (M.word (30 + 6 * c))
  have h29 : ∀ d, d < 2 → M'.word (29 + 6 * d) = M.word (29 + 6 * d) := fun d hd => by
    rw [hw, if_neg (by omega), if_neg (by omega), if_neg (by omega)]
  have h30 : ∀ d, d < 2 → M'.word (30 + 6 * d) = if d = c then M.word (30 + 6 * d) + 1 else M.word (30 + 6 * d) := fun d hd => by
    by_cases e : d = c
    · subst e; rw [hw, if_neg (by omega), if_pos rfl, if_pos rfl]
    · rw [hw, if_neg (by omega), if_neg (by omega), if_neg (by omega), if_neg e]
  refine ⟨hl, fun d hd => by rw [h29 d hd]; exact h.hd d hd, fun d hd => ?_, fun d hd i hi => ?_, fun u hu => ?_, fun u hu => ?_, fun d hd u hu => ?_, fun d hd => ?_, fun u hu => ?_⟩
  · rw [h29 d hd, h30 d hd]
    have := h.ed d hd
    by_cases e : d = c
    · subst e; rw [if_pos rfl, setN_at, List.length_append, List.length_singleton]; omega
    · rw [if_neg e, setN_ne _ _ e]; omega
  · rw [h29 d hd]
    have hbi := sl20_bd d hd (M.word (29 + 6 * d) + i)
    by_cases e : d = c
    · subst e
      rw [setN_at] at hi ⊢
      rw [List.length_append, List.length_singleton] at hi
      have hed := (h.ed d hd).1
      rw [hw, if_neg (by omega), if_neg (by omega)]
      by_cases ei : i = (q d).length
      · subst ei
        rw [if_pos (by rw [hed])]
        simp [List.getD_eq_getElem?_getD]
      · have hlt : i < (q d).length := by omega
        rw [if_neg (by rw [hed]; exact sl_ne hlt (by omega)), h.sl d hd i hlt]
        rw [List.getD_eq_getElem?_getD, List.getD_eq_getElem?_getD, List.getElem?_append_left hlt]
    · rw [setN_ne _ _ e] at hi ⊢
      rw [hw, if_neg (by omega), if_neg (by omega), if_neg (by omega)]
      exact h.sl d hd i hi
  · by_cases e : u = t
    · subst e; rw [hw, if_pos rfl, setN_at]; rfl
    · rw [hw, if_neg (by omega), if_neg (by omega), if_neg (by omega), setN_ne _ _ e]; exact h.fw u hu
  · have hq : (u ∈ setN q c (q c ++ [t]) 0 ∨ u ∈ setN q c (q c ++ [t]) 1) ↔ u = t ∨ (u ∈ q 0 ∨ u ∈ q 1) := by
      match c, hc with
      | 0, _ => rw [setN_at, setN_ne _ _ (by decide)]; simp only [List.mem_append, List.mem_singleton]; exact ⟨fun hh => hh.elim (fun h1 => h1.elim (fun h2 => .inr (.inl h2)) .inl) (fun h1 => .inr (.inr h1)), fun hh => hh.elim (fun h1 => .inl (.inr h1)) (fun h1 => h1.elim (fun h2 => .inl (.inl h2)) .inr)⟩
      | 1, _ => rw [setN_at, setN_ne _ _ (by decide)]; simp only [List.mem_append, List.mem_singleton]; exact ⟨fun hh => hh.elim (fun h1 => .inr (.inl h1)) (fun h1 => h1.elim (fun h2 => .inr (.inr h2)) .inl), fun hh => hh.elim (fun h1 => .inr (.inr h1)) (fun h1 => h1.elim .inl (fun h2 => .inr (.inl h2)))⟩
    rw [hq]
    by_cases e : u = t
    · subst e; simp [setN_at]
    · rw [setN_ne _ _ e, h.fq u hu]; simp [e]
  · by_cases e : d = c
    · subst e
      rw [setN_at] at hu
      rcases List.mem_append.1 hu with h1 | h1
      · exact h.lt d hd u h1
      · rw [List.mem_singleton.1 h1]; exact ht
    · rw [setN_ne _ _ e] at hu; exact h.lt d hd u hu
  · by_cases e : d = c
    · subst e
      rw [setN_at]
      exact List.nodup_append.2 ⟨h.nd d hd, by simp, fun a ha b hb => by rw [List.mem_singleton.1 hb]; rintro rfl; exact hno ha⟩
    · rw [setN_ne _ _ e]; exact h.nd d hd
  · intro hu1
    have ho0 := h.out ht hf (c := 0) (by decide)
    have ho1 := h.out ht hf (c := 1) (by decide)
    match c, hc with
    | 0, _ =>
      rw [setN_at] at hu
      rw [setN_ne _ _ (by decide)] at hu1
      rcases List.mem_append.1 hu with h1 | h1
      · exact h.dj u h1 hu1
      · rw [List.mem_singleton.1 h1] at hu1; exact ho1 hu1
    | 1, _ =>
      rw [setN_at] at hu1
      rw [setN_ne _ _ (by decide)] at hu
      rcases List.mem_append.1 hu1 with h1 | h1
      · exact h.dj u hu h1
      · rw [List.mem_singleton.1 h1] at hu; exact ho0 hu
/-- some of the front of one queue are woken -/
theorem CqI.wake {n : Nat} {M M' : MemS} {q : Nat → List Nat} {fl fl' : Nat → Bool} (h : CqI n M q fl) {c : Nat} (hc : c < 2) (k : Nat) (hk : k ≤ (q c).length) (hl : M'.L.length = 43)
    (hw : ∀ i, M'.word i = if i = 29 + 6 * c then M.word (29 + 6 * c) + k else if 25 ≤ i ∧ i - 25 ∈ (q c).take k then 0 else M.word i)
    (hfl : ∀ t, fl' t = if t ∈ (q c).take k then false else fl t) : CqI (n + 1) M' (setN q c ((q c).drop k)) fl' := by
  have hlt4 : ∀ u, u ∈ (q c).take k → u < 4 := fun u hu => h.lt c hc u (List.mem_of_mem_take hu)
  have h29 : ∀ d, d < 2 → M'.word (29 + 6 * d) = if d = c then M.word (29 + 6 * d) + k else M.word (29 + 6 * d) := fun d hd => by
    by_cases e : d = c
    · subst e; rw [hw, if_pos rfl, if_pos rfl]
    · rw [hw, if_neg (by omega), if_neg (fun h => by have := hlt4 _ h.2; omega), if_neg e]
  have hbig : ∀ i, 30 ≤ i → i ≠ 29 + 6 * c → M'.word i = M.word i := fun i h1 h2 => by
    rw [hw, if_neg h2, if_neg (fun h => by have := hlt4 _ h.2; omega)]
  have hnk := List.take_append_drop k (q c)
  have hnd := h.nd c hc
  rw [← hnk] at hnd
  obtain ⟨_, nd2, nd3⟩ := List.nodup_append.1 hnd
  refine ⟨hl, fun d hd => ?_, fun d hd => ?_, fun d hd i hi => ?_, fun u hu => ?_, fun u hu => ?_, fun d hd u hu => ?_, fun d hd => ?_, fun u hu => ?_⟩
  · rw [h29 d hd]; have := h.hd d hd; split <;> omega
  · rw [h29 d hd, hbig (30 + 6 * d) (by omega) (by omega)]
    have := h.ed d hd
    by_cases e : d = c
    · subst e; rw [if_pos rfl, setN_at, List.length_drop]; omega
    · rw [if_neg e, setN_ne _ _ e]; omega
  · have hb1 := sl20_bd d hd (M'.word (29 + 6 * d) + i)
    rw [hbig _ (by omega) (by omega), h29 d hd]
    by_cases e : d = c
    · subst e
      rw [if_pos rfl]
      rw [setN_at] at hi ⊢
      rw [List.length_drop] at hi
      rw [show M.word (29 + 6 * d) + (k : Int) + (i : Int) = M.word (29 + 6 * d) + ((k + i : Nat) : Int) by omega, h.sl d hd (k + i) (by omega)]
      rw [List.getD_eq_getElem?_getD, List.getD_eq_getElem?_getD, List.getElem?_drop]
    · rw [if_neg e]
      rw [setN_ne _ _ e] at hi ⊢
      exact h.sl d hd i hi
  · rw [hw, if_neg (by omega), hfl]
    by_cases e : u ∈ (q c).take k
    · rw [if_pos ⟨by omega, by rw [show 25 + u - 25 = u by omega]; exact e⟩, if_pos e]; rfl
    · rw [if_neg (fun h => e (by have := h.2; rwa [show 25 + u - 25 = u by omega] at this)), if_neg e]; exact h.fw u hu
  · rw [hfl]
    have hmem : ∀ x, x ∈ q c ↔ x ∈ (q c).take k ∨ x ∈ (q c).drop k := fun x => by
      conv => lhs; rw [← hnk]
      exact List.mem_append
    have hq := h.fq u hu
    by_cases e : u ∈ (q c).take k
    · rw [if_pos e]
      have e1 : u ∉ (q c).drop k := fun h2 => nd3 u e u h2 rfl
      have e2 : u ∈ q c := (hmem u).2 (.inl e)
      match c, hc with
      | 0, _ => rw [setN_at, setN_ne _ _ (by decide)]; simp [e1, h.dj u e2]
      | 1, _ =>
        have e3 : u ∉ q 0 := fun h0 => h.dj u h0 e2
        rw [setN_at, setN_ne _ _ (by decide)]; simp [e1, e3]
    · rw [if_neg e, hq]
      have e2 : u ∈ q c ↔ u ∈ (q c).drop k := by rw [hmem]; simp [e]
      match c, hc with
      | 0, _ => rw [setN_at, setN_ne _ _ (by decide), e2]
      | 1, _ => rw [setN_at, setN_ne _ _ (by decide), e2]
  · by_cases e : d = c
    · subst e; rw [setN_at] at hu; exact h.lt d hd u (List.mem_of_mem_drop hu)
    · rw [setN_ne _ _ e] at hu; exact h.lt d hd u hu
  · by_cases e : d = c
    · subst e; rw [setN_at]; exact nd2
    · rw [setN_ne _ _ e]; exact h.nd d hd
  · intro hu1
    match c, hc with
    | 0, _ => rw [setN_at] at hu; rw [setN_ne _ _ (by decide)] at hu1; exact h.dj u (List.mem_of_mem_drop hu) hu1
    | 1, _ => rw [setN_at] at hu1; rw [setN_ne _ _ (by decide)] at hu; exact h.dj u hu (List.mem_of_mem_drop hu1)
theorem CqI.mono {n m : Nat} {M : MemS} {q : Nat → List Nat} {fl : Nat → Bool} (h : CqI n M q fl) (hnm : n ≤ m) : CqI m M q fl :=
  ⟨h.len, h.hd, fun c hc => ⟨(h.ed c hc).1, by have := (h.ed c hc).2; omega⟩, h.sl, h.fw, h.fq, h.lt, h.nd, h.dj⟩
theorem CqI.same {n : Nat} {M M' : MemS} {q : Nat → List Nat} {fl : Nat → Bool} (h : CqI n M q fl) (hl : M'.L = M.L) : CqI n M' q fl := by
  have hw : ∀ i, M'.word i = M.word i := fun i => by unfold MemS.word; rw [hl]
  exact ⟨by rw [hl]; exact h.len, fun c hc => by rw [hw]; exact h.hd c hc, fun c hc => by rw [hw, hw]; exact h.ed c hc, fun c hc i hi => by rw [hw, hw]; exact h.sl c hc i hi, fun t ht => by rw [hw]; exact h.fw t ht, h.fq, h.lt, h.nd, h.dj⟩
/-- a cast, at any queue -/
theorem CqI.cast {n : Nat} {M : MemS} {q : Nat → List Nat} {fl : Nat → Bool} (h : CqI n M q fl) (hn : n ≤ 500) {c t : Nat} (hc : c < 2) (ht : t < 4) :
    ∃ M', (iterD m20 (M, startR 3 c t) (2 + 3 * (q c).length)).1 = M' ∧ (nextA m20 (iterD m20 (M, startR 3 c t) (2 + 3 * (q c).length)).2).k = 0 ∧ (∀ j, j < 2 + 3 * (q c).length → ¬ (nextA m20 (iterD m20 (M, startR 3 c t) j).2).k = 0) ∧ M'.L.length = 43 ∧
      ∀ i, M'.word i = if i = 29 + 6 * c then M.word (29 + 6 * c) + (q c).length else if 25 ≤ i ∧ i - 25 ∈ (q c).take (q c).length then 0 else M.word i := by
  obtain ⟨he1, he2⟩ := h.ed c hc
  by_cases h0 : (q c).length = 0
  · obtain ⟨M', g1, g2, g3, g4⟩ := wake2 h.len hc ht (k := 3) (.inr rfl) (e := M.word (29 + 6 * c)) rfl (by rw [he1, h0]; simp)
    rw [h0]
    refine ⟨M', g1, g2, g3, by rw [g4]; exact h.len, fun i => ?_⟩
    have hw : M'.word i = M.word i := by unfold MemS.word; rw [g4]
    rw [hw]
    by_cases ei : i = 29 + 6 * c
    · rw [if_pos ei, ei]; simp
    · rw [if_neg ei, if_neg (by simp)]
  · obtain ⟨M', g1, g2, g3, g4, g5⟩ := wakeAll h.len hc ht (q c) (h := M.word (29 + 6 * c)) (e := M.word (30 + 6 * c)) rfl rfl (h.hd c hc) he1.symm (by omega) (by omega) (h.lt c hc) (h.sl c hc)
    refine ⟨M', g1, g2, g3, g4, fun i => ?_⟩
    rw [g5, List.take_length, he1]
end Go.Proofs.Ytodaiogefgdcpaa
