/- One ticket lock, four hands: one at most holds it (no program in sight). -/
import Derived.Test.YtodaiogefgdcpaaHands
import Derived.Test.YtodaiogefgdcpaaTickTold
namespace Go.Proofs.Ytodaiogefgdcpaa
open Go.RowKit
/-- the hands of layer 8's map that hold state h -/
def heldN (f : Nat → HandS) : Nat → Nat
  | 0 => 0
  | k + 1 => heldN f k + if (f k).s = 9 then 1 else 0
theorem heldN_le (f : Nat → HandS) (k : Nat) : heldN f k ≤ k := by
  induction k with
  | zero => exact Nat.le_refl _
  | succ k ih => unfold heldN; split <;> omega
theorem heldN_one {f : Nat → HandS} : ∀ (n : Nat), (∀ j k, j < n → k < n → (f j).s = 9 → (f k).s = 9 → j = k) → heldN f n ≤ 1
  | 0, _ => by simp [heldN]
  | n + 1, h => by
    unfold heldN
    by_cases e : (f n).s = 9
    · have : heldN f n = 0 := by
        have key : ∀ m, m ≤ n → heldN f m = 0 := by
          intro m
          induction m with
          | zero => intro _; rfl
          | succ m ih =>
            intro hm
            unfold heldN
            rw [ih (by omega), if_neg (fun e2 => by have := h m n (by omega) (by omega) e2 e; omega)]
        exact key n (Nat.le_refl _)
      rw [this, if_pos e]; omega
    · have := heldN_one n (fun j k hj hk => h j k (by omega) (by omega))
      rw [if_neg e]; omega
theorem lock8 : lockP ⟨2, 2, 4, 0, 2⟩ 1 1 = 11 ∧ lockP ⟨2, 2, 4, 0, 2⟩ 1 2 = 12 ∧ lockP ⟨2, 2, 4, 0, 2⟩ 0 1 = 5 ∧ lockP ⟨2, 2, 4, 0, 2⟩ 0 2 = 6 := ⟨by kernel_rfl, by kernel_rfl, by kernel_rfl, by kernel_rfl⟩
theorem fit8 {t : Nat} (ht : t < 4) {l : Nat} (hl : l < 2) : fitB ⟨2, 2, 4, 0, 2⟩ 48 t l = true := by
  match t, ht, l, hl with
  | 0, _, 0, _ => exact (by decide)
  | 1, _, 0, _ => exact (by decide)
  | 2, _, 0, _ => exact (by decide)
  | 3, _, 0, _ => exact (by decide)
  | 0, _, 1, _ => exact (by decide)
  | 1, _, 1, _ => exact (by decide)
  | 2, _, 1, _ => exact (by decide)
  | 3, _, 1, _ => exact (by decide)
/-- where the next number and the number that is served stand -/
def nxA (l : Nat) : Nat := 5 + 6 * l
theorem lock8n {l : Nat} (hl : l < 2) : lockP ⟨2, 2, 4, 0, 2⟩ l 1 = (nxA l : Nat) ∧ lockP ⟨2, 2, 4, 0, 2⟩ l 2 = (nxA l + 1 : Nat) := by
  match l, hl with
  | 0, _ => exact ⟨by kernel_rfl, by kernel_rfl⟩
  | 1, _ => exact ⟨by kernel_rfl, by kernel_rfl⟩
theorem tkTake8 {M : MemS} (hM : M.L.length = 48) {t l : Nat} (ht : t < 4) (hl : l < 2) (s : Int) (r : Bool) (x : Int) :
    tkTake ⟨2, 2, 4, 0, 2⟩ M ⟨t, l, s, r, x⟩ = if s = 0 then (M.add (nxA l) 1, ⟨t, l, 1, r, M.word (nxA l)⟩) else if s = 1 then (M.load (nxA l + 1), if M.word (nxA l + 1) = x then ⟨t, l, 9, r, x⟩ else ⟨t, l, 1, r, x⟩) else (M, ⟨t, l, s, r, x⟩) := by
  have hn : nxA l + 1 < 48 := by unfold nxA; omega
  have e1 : M.inR ((nxA l : Nat) : Int) = true := inR_nat (by omega)
  have e2 : M.inR ((nxA l + 1 : Nat) : Int) = true := inR_nat (by omega)
  unfold tkTake
  dsimp only
  rw [hM, fit8 ht hl, (lock8n hl).1, (lock8n hl).2, if_pos rfl]
  simp only [MemS.addI, MemS.loadI, MemS.atP, e1, e2, if_true, Int.toNat_natCast]
  by_cases h0 : s = 0
  · rw [if_pos h0, if_pos h0]
  · rw [if_neg h0, if_neg h0]
    by_cases h1 : s = 1
    · subst h1
      simp only [if_true]
    · rw [if_neg h1, if_neg h1]
theorem tkDrop8 {M : MemS} (hM : M.L.length = 48) {t l : Nat} (ht : t < 4) (hl : l < 2) (r : Bool) (x : Int) :
    tkDrop ⟨2, 2, 4, 0, 2⟩ M ⟨t, l, 9, r, x⟩ = (M.store (nxA l + 1) (wrap64 (x + 1)), ⟨t, l, 0, r, 0⟩) := by
  have hn : nxA l + 1 < 48 := by unfold nxA; omega
  have e2 : M.inR ((nxA l + 1 : Nat) : Int) = true := inR_nat (by omega)
  unfold tkDrop
  dsimp only
  rw [hM, if_pos ⟨rfl, fit8 ht hl⟩, (lock8n hl).2]
  simp only [MemS.storeI, e2, if_true, Int.toNat_natCast]
theorem word_set {L : List Int} {st : Int} {la : Acc} {i j : Nat} {x : Int} (hi : i < L.length) : MemS.word ⟨L.set i x, st, la⟩ j = if j = i then x else MemS.word ⟨L, st, la⟩ j := by
  unfold MemS.word
  rw [List.getD_eq_getElem?_getD, List.getD_eq_getElem?_getD, List.getElem?_set]
  by_cases e : i = j
  · subst e; simp [hi]
  · rw [if_neg e, if_neg (Ne.symm e)]
theorem word_add {M : MemS} {i j : Nat} {d : Int} (hi : i < M.L.length) : (M.add i d).word j = if j = i then wrap64 (M.word i + d) else M.word j := word_set hi
theorem word_store {M : MemS} {i j : Nat} {x : Int} (hi : i < M.L.length) : (M.store i x).word j = if j = i then x else M.word j := word_set hi
theorem word_load {M : MemS} {i j : Nat} : (M.load i).word j = M.word j := rfl
theorem len_add {M : MemS} {i : Nat} {d : Int} : (M.add i d).L.length = M.L.length := by simp [MemS.add]
theorem len_store {M : MemS} {i : Nat} {d : Int} : (M.store i d).L.length = M.L.length := by simp [MemS.store]
theorem len_load {M : MemS} {i : Nat} : (M.load i).L.length = M.L.length := rfl
/-- at most n numbers drawn of lock l; hands of state 1 or 9 have numbers of their own, not served yet; who holds it has the number that is served -/
structure InvT (l n : Nat) (M : MemS) (f : Nat → HandS) : Prop where
  len : M.L.length = 48
  hd : ∀ k, k < 4 → (f k).t = k ∧ (f k).l = l ∧ (f k).r = false ∧ ((f k).s = 0 ∨ (f k).s = 1 ∨ (f k).s = 9)
  lo : 0 ≤ M.word (nxA l + 1)
  mid : M.word (nxA l + 1) ≤ M.word (nxA l)
  hi : M.word (nxA l) ≤ n
  one : ∀ k, k < 4 → (f k).s ≠ 0 → M.word (nxA l + 1) ≤ (f k).x ∧ (f k).x < M.word (nxA l)
  nine : ∀ k, k < 4 → (f k).s = 9 → (f k).x = M.word (nxA l + 1)
  apart : ∀ j k, j < 4 → k < 4 → j ≠ k → (f j).s ≠ 0 → (f k).s ≠ 0 → (f j).x ≠ (f k).x
theorem InvT.hand {l n : Nat} {M : MemS} {f : Nat → HandS} (h : InvT l n M f) {t : Nat} (ht : t < 4) : f t = ⟨t, l, (f t).s, false, (f t).x⟩ := by
  obtain ⟨h1, h2, h3, _⟩ := h.hd t ht
  rcases e : f t with ⟨a, b, c, d, e'⟩
  rw [e] at h1 h2 h3
  simp only at h1 h2 h3
  subst h1; subst h2; subst h3; rfl
theorem InvT.one_held {l n : Nat} {M : MemS} {f : Nat → HandS} (h : InvT l n M f) : heldN f 4 ≤ 1 := by
  refine heldN_one 4 (fun j k hj hk e1 e2 => ?_)
  by_cases e : j = k
  · exact e
  · exact absurd ((h.nine j hj e1).trans (h.nine k hk e2).symm) (h.apart j k hj hk e (by omega) (by omega))
theorem InvT.start (l : Nat) (hl : l < 2) : InvT l 0 (M0 48) (fun k => ⟨k, l, 0, false, 0⟩) := by
  have e1 : (M0 48).word (nxA l) = 0 := by
    match l, hl with
    | 0, _ => rfl
    | 1, _ => rfl
  have e2 : (M0 48).word (nxA l + 1) = 0 := by
    match l, hl with
    | 0, _ => rfl
    | 1, _ => rfl
  refine ⟨M0_len 48, fun k _ => ⟨rfl, rfl, rfl, .inl rfl⟩, ?_, ?_, ?_, ?_, ?_, ?_⟩
  · rw [e2]; omega
  · rw [e1, e2]; omega
  · rw [e1]; exact Int.le_refl _
  · exact fun k _ h => absurd rfl h
  · exact fun k _ h => absurd h (by simp)
  · exact fun j k _ _ _ h _ => absurd rfl h
theorem hput_at (f : Nat → HandS) (t : Nat) (h : HandS) : hput f t h t = h := by simp [hput]
theorem hput_ne (f : Nat → HandS) (t : Nat) (h : HandS) {k : Nat} (e : k ≠ t) : hput f t h k = f k := by simp [hput, e]
theorem InvT.take {l n : Nat} {M : MemS} {f : Nat → HandS} (h : InvT l n M f) (hl : l < 2) (hn : n ≤ 1000) {t : Nat} (ht : t < 4) :
    InvT l (n + 1) (tkTake ⟨2, 2, 4, 0, 2⟩ M (f t)).1 (hput f t (tkTake ⟨2, 2, 4, 0, 2⟩ M (f t)).2) := by
  have hA : nxA l + 1 < 48 := by unfold nxA; omega
  have hlen := h.len
  have hlo := h.lo
  have hmid := h.mid
  have hhi := h.hi
  have hh := h.hand ht
  obtain ⟨_, _, _, hs⟩ := h.hd t ht
  have hone := h.one t ht
  generalize (f t).s = s at *
  generalize (f t).x = x at *
  rw [hh, tkTake8 h.len ht hl]
  rcases hs with rfl | rfl | rfl
  · -- draws a number
    rw [if_pos rfl]
    have w1 : (M.add (nxA l) 1).word (nxA l) = M.word (nxA l) + 1 := by
      rw [word_add (by omega), if_pos rfl, wrap64_id (by omega) (by omega)]
    have w2 : (M.add (nxA l) 1).word (nxA l + 1) = M.word (nxA l + 1) := by rw [word_add (by omega), if_neg (by omega)]
    refine ⟨len_add.trans h.len, fun k hk => ?_, by dsimp only; omega, by dsimp only; omega, by dsimp only; omega, fun k hk => ?_, fun k hk => ?_, fun j k hj hk hjk => ?_⟩
    · by_cases e : k = t
      · subst e; rw [hput_at]; exact ⟨rfl, rfl, rfl, .inr (.inl rfl)⟩
      · rw [hput_ne _ _ _ e]; exact h.hd k hk
    · dsimp only
      by_cases e : k = t
      · subst e; rw [hput_at]; intro _; dsimp only; omega
      · rw [hput_ne _ _ _ e]; intro e2; have := h.one k hk e2; omega
    · dsimp only
      by_cases e : k = t
      · subst e; rw [hput_at]; intro e2; exact absurd e2 (by simp)
      · rw [hput_ne _ _ _ e, w2]; exact h.nine k hk
    · by_cases e : j = t
      · subst e
        rw [hput_at, hput_ne _ _ _ (Ne.symm hjk)]
        intro _ e2; have := h.one k hk e2; dsimp only; omega
      · rw [hput_ne _ _ _ e]
        by_cases e3 : k = t
        · subst e3; rw [hput_at]; intro e2 _; have := h.one j hj e2; dsimp only; omega
        · rw [hput_ne _ _ _ e3]; exact h.apart j k hj hk hjk
  · -- waits
    rw [if_neg (by decide), if_pos rfl]
    have hone := hone (by decide)
    have hs' : ∀ k, k < 4 → k ≠ t → (f k).s ≠ 0 → (f k).x ≠ x := fun k hk e e2 => by
      have := h.apart k t hk ht e e2 (by rw [hh]; simp)
      rw [hh] at this; exact this
    by_cases ex : M.word (nxA l + 1) = x
    · rw [if_pos ex]
      refine ⟨h.len, fun k hk => ?_, hlo, hmid, by dsimp only; rw [word_load]; omega, fun k hk => ?_, fun k hk => ?_, fun j k hj hk hjk => ?_⟩
      · by_cases e : k = t
        · subst e; rw [hput_at]; exact ⟨rfl, rfl, rfl, .inr (.inr rfl)⟩
        · rw [hput_ne _ _ _ e]; exact h.hd k hk
      · dsimp only
        by_cases e : k = t
        · subst e; rw [hput_at]; intro _; exact hone
        · rw [hput_ne _ _ _ e]; exact h.one k hk
      · dsimp only
        by_cases e : k = t
        · subst e; rw [hput_at]; intro _; exact ex.symm
        · rw [hput_ne _ _ _ e]; exact h.nine k hk
      · by_cases e : j = t
        · subst e
          rw [hput_at, hput_ne _ _ _ (Ne.symm hjk)]
          intro _ e2; exact (hs' k hk (Ne.symm hjk) e2).symm
        · rw [hput_ne _ _ _ e]
          by_cases e3 : k = t
          · subst e3; rw [hput_at]; intro e2 _; exact hs' j hj e e2
          · rw [hput_ne _ _ _ e3]; exact h.apart j k hj hk hjk
    · rw [if_neg ex]
      have e0 : hput f t ⟨t, l, 1, false, x⟩ = f := by
        funext k; by_cases e : k = t
        · subst e; rw [hput_at]; exact hh.symm
        · rw [hput_ne _ _ _ e]
      dsimp only
      rw [e0]
      exact ⟨h.len, h.hd, hlo, hmid, by rw [word_load]; omega, h.one, h.nine, h.apart⟩
  · rw [if_neg (by decide), if_neg (by decide)]
    have e0 : hput f t ⟨t, l, 9, false, x⟩ = f := by
      funext k; by_cases e : k = t
      · subst e; rw [hput_at]; exact hh.symm
      · rw [hput_ne _ _ _ e]
    dsimp only
    rw [e0]
    exact ⟨h.len, h.hd, hlo, hmid, by omega, h.one, h.nine, h.apart⟩
theorem InvT.drop {l n : Nat} {M : MemS} {f : Nat → HandS} (h : InvT l n M f) (hl : l < 2) (hn : n ≤ 1000) {t : Nat} (ht : t < 4) (h9 : (f t).s = 9) :
    InvT l (n + 1) (tkDrop ⟨2, 2, 4, 0, 2⟩ M (f t)).1 (hput f t (tkDrop ⟨2, 2, 4, 0, 2⟩ M (f t)).2) := by
  have hA : nxA l + 1 < 48 := by unfold nxA; omega
  have hlen := h.len
  have hlo := h.lo
  have hmid := h.mid
  have hhi := h.hi
  have hh := h.hand ht
  have hone := h.one t ht (by omega)
  have hnine := h.nine t ht h9
  rw [h9] at hh
  have hx : ∀ k, k < 4 → k ≠ t → (f k).s ≠ 0 → (f k).x ≠ (f t).x := fun k hk e e2 => h.apart k t hk ht e e2 (by omega)
  generalize (f t).x = x at *
  rw [hh, tkDrop8 h.len ht hl]
  have wx : wrap64 (x + 1) = x + 1 := wrap64_id (by omega) (by omega)
  rw [wx]
  have w1 : (M.store (nxA l + 1) (x + 1)).word (nxA l) = M.word (nxA l) := by rw [word_store (by omega), if_neg (by omega)]
  have w2 : (M.store (nxA l + 1) (x + 1)).word (nxA l + 1) = x + 1 := by rw [word_store (by omega), if_pos rfl]
  refine ⟨len_store.trans h.len, fun k hk => ?_, by dsimp only; omega, by dsimp only; omega, by dsimp only; omega, fun k hk => ?_, fun k hk => ?_, fun j k hj hk hjk => ?_⟩
  · by_cases e : k = t
    · subst e; rw [hput_at]; exact ⟨rfl, rfl, rfl, .inl rfl⟩
    · rw [hput_ne _ _ _ e]; exact h.hd k hk
  · dsimp only
    by_cases e : k = t
    · subst e; rw [hput_at]; intro e2; exact absurd rfl e2
    · rw [hput_ne _ _ _ e]; intro e2; have := h.one k hk e2; have := hx k hk e e2; omega
  · dsimp only
    by_cases e : k = t
    · subst e; rw [hput_at]; intro e2; exact absurd e2 (by simp)
    · rw [hput_ne _ _ _ e]
      intro e2
      exact absurd ((h.nine k hk e2).trans hnine.symm) (hx k hk e (by omega))
  · by_cases e : j = t
    · subst e
      rw [hput_at]; intro e2; exact absurd rfl e2
    · rw [hput_ne _ _ _ e]
      by_cases e3 : k = t
      · subst e3; rw [hput_at]; intro _ e2; exact absurd rfl e2
      · rw [hput_ne _ _ _ e3]; exact h.apart j k hj hk hjk
end Go.Proofs.Ytodaiogefgdcpaa
