/- Bumps of three by picks (no program in sight). -/
import Derived.Test.YtodaiogefgdcpaaClockPlain
namespace Go.Proofs.Ytodaiogefgdcpaa
open Go.RowKit
def upd {α : Type} (f : Nat → α) (t : Nat) (x : α) : Nat → α := fun k => if k = t then x else f k
theorem upd_at {α : Type} (f : Nat → α) (t : Nat) (x : α) : upd f t x t = x := by simp [upd]
theorem upd_ne {α : Type} (f : Nat → α) {t k : Nat} (x : α) (h : k ≠ t) : upd f t x k = f k := by simp [upd, h]
/-- the word that is bumped -/
def atK (k : Int) : Nat := if k = 3 then 1 else 0
def byK (k : Int) : Int := if k = 3 then 2 else 1
structure BumpsS where
  M : MemS
  b : Nat → BumpS
  fr : Nat → Int
  O : List Int
  G : List Int
def frK (k : Int) (t : Nat) (S : BumpsS) : Nat → Int := if (S.b t).s = 0 then upd S.fr t (S.M.word (atK k)) else S.fr
def bumpsStep (k : Int) (t : Nat) (S : BumpsS) : BumpsS :=
  if (stepB ⟨2, 2, 4, 0, 2⟩ S.M (S.b t)).2.s = 9 then ⟨(stepB ⟨2, 2, 4, 0, 2⟩ S.M (S.b t)).1, upd S.b t ⟨k, 0, 0, 0⟩, frK k t S, S.O ++ [(stepB ⟨2, 2, 4, 0, 2⟩ S.M (S.b t)).2.y], S.G ++ [frK k t S t]⟩
  else ⟨(stepB ⟨2, 2, 4, 0, 2⟩ S.M (S.b t)).1, upd S.b t (stepB ⟨2, 2, 4, 0, 2⟩ S.M (S.b t)).2, frK k t S, S.O, S.G⟩
structure CI (k : Int) (n : Nat) (S : BumpsS) : Prop where
  len : S.M.L.length = 48
  st : S.M.st = n
  wlo : 0 ≤ S.M.word (atK k)
  whi : S.M.word (atK k) ≤ byK k * n
  ev : k = 3 → S.M.word (atK k) % 2 = 0
  bs : ∀ t, t < 3 → S.b t = ⟨k, 0, 0, 0⟩ ∨ (S.b t = ⟨k, 1, S.fr t, 0⟩ ∧ 0 ≤ S.fr t ∧ S.fr t ≤ S.M.word (atK k) ∧ k ≠ 1)
  ln : S.G.length = S.O.length
  lt : ∀ i, i < S.O.length → 0 ≤ S.G.getD i 0 ∧ S.G.getD i 0 < S.O.getD i 0 ∧ S.O.getD i 0 ≤ S.M.word (atK k)
  own : k ≠ 2 → (∀ i, i < S.O.length → S.O.getD i 0 = byK k * (i + 1)) ∧ S.M.word (atK k) = byK k * S.O.length
theorem CI.start {k : Int} (hk : k = 1 ∨ k = 2 ∨ k = 3) (fr : Nat → Int) : CI k 0 ⟨M0 48, fun _ => ⟨k, 0, 0, 0⟩, fr, [], []⟩ := by
  have hw : (M0 48).word (atK k) = 0 := by
    rcases hk with rfl | rfl | rfl <;> rfl
  refine ⟨M0_len 48, rfl, by dsimp only; omega, by dsimp only; rw [hw]; simp, fun _ => by dsimp only; rw [hw]; rfl, fun t _ => .inl rfl, rfl, fun i hi => absurd hi (by simp), fun _ => ⟨fun i hi => absurd hi (by simp), by dsimp only; rw [hw]; simp⟩⟩
theorem getD_app {L : List Int} {x : Int} {i : Nat} : (L ++ [x]).getD i 0 = if i = L.length then x else L.getD i 0 := by
  rw [List.getD_eq_getElem?_getD, List.getD_eq_getElem?_getD]
  by_cases h : i = L.length
  · subst h; simp
  · rw [if_neg h]
    by_cases h2 : i < L.length
    · rw [List.getElem?_append_left h2]
    · rw [List.getElem?_eq_none (by simp; omega), List.getElem?_eq_none (by omega)]
/-- a stamp is told: what must be shown -/
theorem CI.told {k : Int} {n : Nat} {S : BumpsS} (h : CI k n S) {t : Nat} {M' : MemS} {y : Int} {fr' : Nat → Int} (hl : M'.L.length = 48) (hs : M'.st = n + 1) (hw : S.M.word (atK k) ≤ M'.word (atK k)) (hh : M'.word (atK k) ≤ byK k * (n + 1)) (he : k = 3 → M'.word (atK k) % 2 = 0)
    (hf : ∀ j, j ≠ t → fr' j = S.fr j) (h0 : 0 ≤ fr' t) (h1 : fr' t < y) (h2 : y ≤ M'.word (atK k)) (ho : k ≠ 2 → y = S.M.word (atK k) + byK k ∧ M'.word (atK k) = y) :
    CI k (n + 1) ⟨M', upd S.b t ⟨k, 0, 0, 0⟩, fr', S.O ++ [y], S.G ++ [fr' t]⟩ := by
  refine ⟨hl, by rw [hs]; simp, Int.le_trans h.wlo hw, by simpa using hh, he, ?_, by simp [h.ln], ?_, ?_⟩
  · intro j hj
    dsimp only
    by_cases e : j = t
    · subst e; rw [upd_at]; exact .inl rfl
    · rw [upd_ne _ _ e, hf j e]
      rcases h.bs j hj with h' | ⟨a1, a2, a3, a4⟩
      · exact .inl h'
      · exact .inr ⟨a1, a2, Int.le_trans a3 hw, a4⟩
  · intro i hi
    dsimp only at hi ⊢
    rw [List.length_append, List.length_singleton] at hi
    rw [getD_app, getD_app, h.ln]
    by_cases e : i = S.O.length
    · rw [if_pos e, if_pos e]; exact ⟨h0, h1, h2⟩
    · rw [if_neg e, if_neg e]
      have := h.lt i (by omega)
      exact ⟨this.1, this.2.1, Int.le_trans this.2.2 hw⟩
  · intro hk
    obtain ⟨o1, o2⟩ := h.own hk
    obtain ⟨o3, o4⟩ := ho hk
    dsimp only
    refine ⟨fun i hi => ?_, ?_⟩
    · rw [List.length_append, List.length_singleton] at hi
      rw [getD_app]
      by_cases e : i = S.O.length
      · rw [if_pos e, o3, o2, e, Int.mul_add, Int.mul_one]
      · rw [if_neg e]; exact o1 i (by omega)
    · rw [o4, o3, o2, List.length_append, List.length_singleton]
      push_cast
      rw [Int.mul_add, Int.mul_one]
/-- no stamp yet -/
theorem CI.quiet {k : Int} {n : Nat} {S : BumpsS} (h : CI k n S) {t : Nat} {M' : MemS} {b' : BumpS} {fr' : Nat → Int} (hl : M'.L.length = 48) (hs : M'.st = n + 1) (hw : M'.word (atK k) = S.M.word (atK k))
    (hf : ∀ j, j ≠ t → fr' j = S.fr j) (hb : b' = ⟨k, 0, 0, 0⟩ ∨ (b' = ⟨k, 1, fr' t, 0⟩ ∧ 0 ≤ fr' t ∧ fr' t ≤ S.M.word (atK k) ∧ k ≠ 1)) : CI k (n + 1) ⟨M', upd S.b t b', fr', S.O, S.G⟩ := by
  have hbk : 0 ≤ byK k := by unfold byK; split <;> omega
  refine ⟨hl, by rw [hs]; simp, by dsimp only; rw [hw]; exact h.wlo, ?_, fun hk => by dsimp only; rw [hw]; exact h.ev hk, ?_, h.ln, fun i hi => by dsimp only; rw [hw]; exact h.lt i hi, fun hk => by dsimp only; rw [hw]; exact h.own hk⟩
  · dsimp only
    rw [hw]
    have := h.whi
    have e : byK k * ((n + 1 : Nat) : Int) = byK k * n + byK k := by push_cast; rw [Int.mul_add, Int.mul_one]
    rw [e]; omega
  · intro j hj
    dsimp only
    by_cases e : j = t
    · subst e; rw [upd_at, hw]; exact hb
    · rw [upd_ne _ _ e, hf j e, hw]; exact h.bs j hj
theorem CI.step {k : Int} (hk : k = 1 ∨ k = 2 ∨ k = 3) {n : Nat} (hn : n < 1000) {S : BumpsS} (h : CI k n S) {t : Nat} (ht : t < 3) : CI k (n + 1) (bumpsStep k t S) := by
  have hst : wrap64 (S.M.st + 1) = n + 1 := by rw [h.st]; exact wrap64_id (by omega) (by omega)
  have hl := h.len
  have hwlo := h.wlo
  have hwhi := h.whi
  have hbs := h.bs t ht
  unfold bumpsStep
  rcases hk with rfl | rfl | rfl
  · have ea : atK 1 = 0 := rfl
    have eb : byK 1 = 1 := rfl
    rw [ea] at hwlo hwhi
    rw [eb] at hwhi
    have hb : S.b t = ⟨1, 0, 0, 0⟩ := by
      rcases hbs with h' | ⟨_, _, _, h'⟩
      · exact h'
      · exact absurd rfl h'
    have e := step1_add (x := 0) (y := 0) hl
    have hw1 : wrap64 (S.M.word 0 + 1) = S.M.word 0 + 1 := wrap64_id (by omega) (by omega)
    rw [hw1] at e
    have hfr : frK 1 t S = upd S.fr t (S.M.word 0) := by unfold frK; rw [hb, if_pos rfl]; rfl
    have hw : (S.M.add 0 1).word 0 = S.M.word 0 + 1 := by rw [wordC_add (by omega), if_pos rfl, hw1]
    rw [hb, e, if_pos rfl, hfr]
    exact h.told (by rw [lenC_add]; exact hl) hst (by rw [ea, hw]; omega) (by rw [ea, eb, hw]; omega) (fun h' => absurd h' (by decide)) (fun j hj => upd_ne _ _ hj) (by rw [upd_at]; omega) (by rw [upd_at]; dsimp only; omega) (by rw [ea, hw]; exact Int.le_refl _) (fun _ => ⟨by rw [ea, eb], by rw [ea, hw]⟩)
  · have ea : atK 2 = 0 := rfl
    have eb : byK 2 = 1 := rfl
    rw [ea] at hwlo hwhi
    rw [eb] at hwhi
    rcases hbs with hb | ⟨hb, f0, f1, _⟩
    · have e := step2_look (x := 0) (y := 0) hl
      have hfr : frK 2 t S = upd S.fr t (S.M.word 0) := by unfold frK; rw [hb, if_pos rfl]; rfl
      rw [hb, e, if_neg (by simp), hfr]
      exact h.quiet hl hst rfl (fun j hj => upd_ne _ _ hj) (.inr ⟨by rw [upd_at], by rw [upd_at]; exact hwlo, by rw [upd_at, ea]; exact Int.le_refl _, by decide⟩)
    · rw [ea] at f1
      have hfr : frK 2 t S = S.fr := by unfold frK; rw [hb, if_neg (by simp)]
      have hw1 : wrap64 (S.fr t + 1) = S.fr t + 1 := wrap64_id (by omega) (by omega)
      by_cases hq : S.M.word 0 = S.fr t
      · have e := step2_swap (x := S.fr t) (y := 0) hl hq
        rw [hw1] at e
        have hw : (S.M.swap 0 (S.fr t) (S.fr t + 1)).word 0 = S.fr t + 1 := by rw [wordC_swap (by omega), if_pos ⟨rfl, hq⟩]
        rw [hb, e, if_pos rfl, hfr]
        exact h.told (by rw [lenC_swap]; exact hl) hst (by rw [ea, hw]; omega) (by rw [ea, eb, hw]; omega) (fun h' => absurd h' (by decide)) (fun _ _ => rfl) f0 (by dsimp only; omega) (by rw [ea, hw]; exact Int.le_refl _) (fun h' => absurd rfl h')
      · have e := step2_miss (x := S.fr t) (y := 0) hl hq
        have hw : (S.M.swap 0 (S.fr t) (wrap64 (S.fr t + 1))).word 0 = S.M.word 0 := by rw [wordC_swap (by omega), if_neg (fun h' => hq h'.2)]
        rw [hb, e, if_pos rfl, hfr]
        exact h.told (by rw [lenC_swap]; exact hl) hst (by rw [ea, hw]; exact Int.le_refl _) (by rw [ea, eb, hw]; omega) (fun h' => absurd h' (by decide)) (fun _ _ => rfl) f0 (by dsimp only; omega) (by rw [ea, hw]; exact Int.le_refl _) (fun h' => absurd rfl h')
  · have ea : atK 3 = 1 := rfl
    have eb : byK 3 = 2 := rfl
    have hev := h.ev rfl
    rw [ea] at hwlo hwhi hev
    rw [eb] at hwhi
    rcases hbs with hb | ⟨hb, f0, f1, _⟩
    · have e := step3_even (x := 0) (y := 0) hl hev
      have hfr : frK 3 t S = upd S.fr t (S.M.word 1) := by unfold frK; rw [hb, if_pos rfl]; rfl
      rw [hb, e, if_neg (by simp), hfr]
      exact h.quiet hl hst rfl (fun j hj => upd_ne _ _ hj) (.inr ⟨by rw [upd_at], by rw [upd_at]; exact hwlo, by rw [upd_at, ea]; exact Int.le_refl _, by decide⟩)
    · rw [ea] at f1
      have hfr : frK 3 t S = S.fr := by unfold frK; rw [hb, if_neg (by simp)]
      have hw1 : wrap64 (S.fr t + 2) = S.fr t + 2 := wrap64_id (by omega) (by omega)
      by_cases hq : S.M.word 1 = S.fr t
      · have e := step3_swap (x := S.fr t) (y := 0) hl hq
        rw [hw1] at e
        have hw : (S.M.swap 1 (S.fr t) (S.fr t + 2)).word 1 = S.fr t + 2 := by rw [wordC_swap (by omega), if_pos ⟨rfl, hq⟩]
        rw [hb, e, if_pos rfl, hfr]
        exact h.told (by rw [lenC_swap]; exact hl) hst (by rw [ea, hw]; omega) (by rw [ea, eb, hw]; omega) (fun _ => by rw [ea, hw]; omega) (fun _ _ => rfl) f0 (by dsimp only; omega) (by rw [ea, hw]; exact Int.le_refl _) (fun _ => ⟨by rw [ea, eb]; dsimp only; omega, by rw [ea, hw]⟩)
      · have e := step3_miss (x := S.fr t) (y := 0) hl hq
        have hw : (S.M.swap 1 (S.fr t) (wrap64 (S.fr t + 2))).word 1 = S.M.word 1 := by rw [wordC_swap (by omega), if_neg (fun h' => hq h'.2)]
        rw [hb, e, if_neg (by simp), hfr]
        exact h.quiet (by rw [lenC_swap]; exact hl) hst (by rw [ea, hw]) (fun _ _ => rfl) (.inl rfl)
end Go.Proofs.Ytodaiogefgdcpaa
