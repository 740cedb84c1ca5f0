/- The lock that is a queue: each step keeps the queue (no program in sight). -/
import Derived.Test.YtchgfdfdkcijnaaMcsQ
namespace Go.Proofs.Ytchgfdfdkcijnaa
open Go.RowKit
section
variable {A : QA} {Q : List Nat} {t : Nat}
theorem stepT_0 (h : A.s t = 0) : stepT A t = { A with G := upd A.G t 1, s := upd A.s t 1 } := by unfold stepT; rw [if_pos h]
theorem stepT_1 (h : A.s t = 1) : stepT A t = { A with K := upd A.K t 0, s := upd A.s t 2 } := by unfold stepT; rw [if_neg (by omega), if_pos h]
theorem stepT_2 (h : A.s t = 2) : stepT A t = { A with x := upd A.x t A.T, s := upd A.s t 3 } := by unfold stepT; rw [if_neg (by omega), if_neg (by omega), if_pos h]
theorem stepT_3no (h : A.s t = 3) (e : ¬ A.T = A.x t) : stepT A t = { A with x := upd A.x t A.T } := by unfold stepT; rw [if_neg (by omega), if_neg (by omega), if_neg (by omega), if_pos h, if_neg e]
theorem stepT_3z (h : A.s t = 3) (e : A.T = A.x t) (e0 : A.x t = 0) : stepT A t = { A with T := idn t, s := upd A.s t 9 } := by unfold stepT; rw [if_neg (by omega), if_neg (by omega), if_neg (by omega), if_pos h, if_pos e, if_pos e0]
theorem stepT_3q (h : A.s t = 3) (e : A.T = A.x t) (e0 : ¬ A.x t = 0) : stepT A t = { A with T := idn t, s := upd A.s t 4 } := by unfold stepT; rw [if_neg (by omega), if_neg (by omega), if_neg (by omega), if_pos h, if_pos e, if_neg e0]
theorem stepT_4 {u : Nat} (h : A.s t = 4) (e : A.x t = idn u) (hu : u < 4) : stepT A t = { A with K := upd A.K u (idn t), s := upd A.s t 5, x := upd A.x t 0 } := by
  unfold stepT; rw [if_neg (by omega), if_neg (by omega), if_neg (by omega), if_neg (by omega), if_pos h, e, thN_idn hu]
theorem stepT_5 (h : A.s t = 5) (e : A.G t = 0) : stepT A t = { A with s := upd A.s t 9 } := by unfold stepT; rw [if_neg (by omega), if_neg (by omega), if_neg (by omega), if_neg (by omega), if_neg (by omega), if_pos h, if_pos e]
theorem stepT_5w (h : A.s t = 5) (e : ¬ A.G t = 0) : stepT A t = A := by unfold stepT; rw [if_neg (by omega), if_neg (by omega), if_neg (by omega), if_neg (by omega), if_neg (by omega), if_pos h, if_neg e]
theorem stepT_no (h : ¬ A.s t = 0 ∧ ¬ A.s t = 1 ∧ ¬ A.s t = 2 ∧ ¬ A.s t = 3 ∧ ¬ A.s t = 4 ∧ ¬ A.s t = 5) : stepT A t = A := by
  unfold stepT; rw [if_neg h.1, if_neg h.2.1, if_neg h.2.2.1, if_neg h.2.2.2.1, if_neg h.2.2.2.2.1, if_neg h.2.2.2.2.2]
theorem stepD_9 (h : A.s t = 9) (e : A.K t = 0) : stepD A t = { A with s := upd A.s t 7 } := by unfold stepD; rw [if_pos h, if_pos e]
theorem stepD_98 (h : A.s t = 9) (e : ¬ A.K t = 0) : stepD A t = { A with s := upd A.s t 8, x := upd A.x t (A.K t) } := by unfold stepD; rw [if_pos h, if_neg e]
theorem stepD_6w (h : A.s t = 6) (e : A.K t = 0) : stepD A t = A := by unfold stepD; rw [if_neg (by omega), if_pos h, if_pos e]
theorem stepD_68 (h : A.s t = 6) (e : ¬ A.K t = 0) : stepD A t = { A with s := upd A.s t 8, x := upd A.x t (A.K t) } := by unfold stepD; rw [if_neg (by omega), if_pos h, if_neg e]
theorem stepD_70 (h : A.s t = 7) (e : A.T = idn t) : stepD A t = { A with T := 0, s := upd A.s t 0 } := by unfold stepD; rw [if_neg (by omega), if_neg (by omega), if_pos h, if_pos e]
theorem stepD_76 (h : A.s t = 7) (e : ¬ A.T = idn t) : stepD A t = { A with s := upd A.s t 6 } := by unfold stepD; rw [if_neg (by omega), if_neg (by omega), if_pos h, if_neg e]
theorem stepD_8 {u : Nat} (h : A.s t = 8) (e : A.x t = idn u) (hu : u < 4) : stepD A t = { A with G := upd A.G u 0, s := upd A.s t 0, x := upd A.x t 0 } := by
  unfold stepD; rw [if_neg (by omega), if_neg (by omega), if_neg (by omega), if_pos h, e, thN_idn hu]
theorem stepD_no (h : ¬ A.s t = 9 ∧ ¬ A.s t = 6 ∧ ¬ A.s t = 7 ∧ ¬ A.s t = 8) : stepD A t = A := by
  unfold stepD; rw [if_neg h.1, if_neg h.2.1, if_neg h.2.2.1, if_neg h.2.2.2]
/-- ahead of the Swap -/
theorem QI.take0 (h : QI A Q) (ht : t < 4) (hs : A.s t = 0) : QI (stepT A t) Q := by
  have hq := h.notin ht (.inl hs)
  rw [stepT_0 hs]
  exact h.outer ht hq rfl (fun q e => upd_ne e) (fun _ _ => rfl) (fun q e => upd_ne e) (fun _ _ => rfl) (.inr (.inl ⟨upd_same, upd_same⟩))
theorem QI.take1 (h : QI A Q) (ht : t < 4) (hs : A.s t = 1) : QI (stepT A t) Q := by
  have hq := h.notin ht (.inr (.inl hs))
  have hg : A.G t = 1 := by rcases h.out t ht hq with a | a | a <;> omega
  rw [stepT_1 hs]
  exact h.outer ht hq rfl (fun _ _ => rfl) (fun q e => upd_ne e) (fun q e => upd_ne e) (fun _ _ => rfl) (.inr (.inr ⟨.inl upd_same, hg, upd_same⟩))
theorem QI.take2 (h : QI A Q) (ht : t < 4) (hs : A.s t = 2) : QI (stepT A t) Q := by
  have hq := h.notin ht (.inr (.inr (.inl hs)))
  have hg : A.G t = 1 ∧ A.K t = 0 := by rcases h.out t ht hq with a | a | a <;> omega
  rw [stepT_2 hs]
  exact h.outer ht hq rfl (fun _ _ => rfl) (fun _ _ => rfl) (fun q e => upd_ne e) (fun q e => upd_ne e) (.inr (.inr ⟨.inr upd_same, hg.1, hg.2⟩))
theorem QI.take3no (h : QI A Q) (ht : t < 4) (hs : A.s t = 3) (e : ¬ A.T = A.x t) : QI (stepT A t) Q := by
  have hq := h.notin ht (.inr (.inr (.inr hs)))
  have hg : A.G t = 1 ∧ A.K t = 0 := by rcases h.out t ht hq with a | a | a <;> omega
  rw [stepT_3no hs e]
  exact h.outer ht hq rfl (fun _ _ => rfl) (fun _ _ => rfl) (fun _ _ => rfl) (fun q e => upd_ne e) (.inr (.inr ⟨.inr hs, hg.1, hg.2⟩))
/-- the Swap at an empty queue -/
theorem QI.take3z (h : QI A Q) (ht : t < 4) (hs : A.s t = 3) (e : A.T = A.x t) (e0 : A.x t = 0) : Q = [] ∧ QI (stepT A t) [t] := by
  have hq := h.notin ht (.inr (.inr (.inr hs)))
  have hg : A.G t = 1 ∧ A.K t = 0 := by rcases h.out t ht hq with a | a | a <;> omega
  have hQ : Q = [] := by
    cases Q with
    | nil => rfl
    | cons a r => exact absurd (h.tl.symm.trans (e.trans e0)) (lastQ_ne (by simp))
  subst hQ
  rw [stepT_3z hs e e0]
  refine ⟨rfl, by simp, by simpa using ht, rfl, fun k hk hkq => ?_, .inr (.inl upd_same), hg.2⟩
  have hk2 : k ≠ t := by simpa using hkq
  show upd A.s t 9 k = 0 ∨ (upd A.s t 9 k = 1 ∧ A.G k = 1) ∨ ((upd A.s t 9 k = 2 ∨ upd A.s t 9 k = 3) ∧ A.G k = 1 ∧ A.K k = 0)
  rw [upd_ne hk2]
  exact h.out k hk (by simp)
/-- the Swap behind others -/
theorem QI.take3q (h : QI A Q) (ht : t < 4) (hs : A.s t = 3) (e : A.T = A.x t) (e0 : ¬ A.x t = 0) : Q ≠ [] ∧ QI (stepT A t) (Q ++ [t]) := by
  have hq := h.notin ht (.inr (.inr (.inr hs)))
  have hg : A.G t = 1 ∧ A.K t = 0 := by rcases h.out t ht hq with a | a | a <;> omega
  cases Q with
  | nil => exact absurd (e.symm.trans h.tl) e0
  | cons a r =>
    rw [stepT_3q hs e e0]
    have hne : ∀ q ∈ a :: r, q ≠ t := fun q hm e => hq (e ▸ hm)
    have ha := hne a (by simp)
    obtain ⟨l, hl, hle⟩ := lastQ_mem (a :: r) (by simp)
    refine ⟨by simp, ?_, fun q hm => ?_, ?_, fun k hk hkq => ?_, ?_, ?_⟩
    · exact List.nodup_append.2 ⟨h.nd, by simp, fun x hx y hy => by
        have hy' : y = t := by simpa using hy
        rw [hy']; exact hne x hx⟩
    · rcases List.mem_append.1 hm with hm | hm
      · exact h.lt q hm
      · have : q = t := by simpa using hm
        omega
    · exact (lastQ_app (a :: r) t).symm
    · have hk2 : k ≠ t := fun e => hkq (by rw [e]; simp)
      show upd A.s t 4 k = 0 ∨ (upd A.s t 4 k = 1 ∧ A.G k = 1) ∨ ((upd A.s t 4 k = 2 ∨ upd A.s t 4 k = 3) ∧ A.G k = 1 ∧ A.K k = 0)
      rw [upd_ne hk2]
      exact h.out k hk (fun hm => hkq (by simp at hm ⊢; rcases hm with e | e <;> simp [e]))
    · have := h.qq.1
      unfold HdQ at this ⊢
      show (upd A.s t 4 a = 5 ∧ A.G a = 0) ∨ upd A.s t 4 a = 9 ∨ upd A.s t 4 a = 7 ∨ (upd A.s t 4 a = 6 ∧ r ++ [t] ≠ []) ∨ (upd A.s t 4 a = 8 ∧ ∃ q r', r ++ [t] = q :: r' ∧ upd A.s t 4 q = 5 ∧ A.x a = idn q)
      rw [upd_ne ha]
      rcases this with a1 | a1 | a1 | a1 | ⟨a1, q, r', e1, e2, e3⟩
      · exact .inl a1
      · exact .inr (.inl a1)
      · exact .inr (.inr (.inl a1))
      · exact .inr (.inr (.inr (.inl ⟨a1.1, by simp⟩)))
      · exact .inr (.inr (.inr (.inr ⟨a1, q, r' ++ [t], by rw [e1]; rfl, by rw [upd_ne (hne q (by rw [e1]; simp))]; exact e2, e3⟩)))
    · exact h.qq.2.app (fun q _ => rfl) (fun q hm => ⟨rfl, upd_ne (hne q (List.mem_cons_of_mem _ hm)), rfl⟩) hle ⟨hg.1, .inl ⟨upd_same, e.symm.trans (h.tl.trans hle), h.qq.2.last l hle⟩⟩ hg.2
/-- one links itself -/
theorem QI.take4 (h : QI A Q) (ht : t < 4) (hs : A.s t = 4) : ∃ u, u ∈ Q ∧ u < 4 ∧ A.x t = idn u ∧ QI (stepT A t) Q := by
  have hq : t ∈ Q := Classical.byContradiction fun hq => by have := h.out_s ht hq; omega
  rcases h.in_s hq with ⟨r, e, h5⟩ | ⟨a, r, rfl, hr, hg, _⟩
  · rcases h5 with ⟨b, _⟩ | b | b | ⟨b, _⟩ | ⟨b, _⟩ <;> omega
  · obtain ⟨u, hu, hx⟩ := h.qq.2.pred hr hs
    have hu4 := h.lt u hu
    have hn := List.nodup_cons.1 h.nd
    have hat : a ≠ t := fun e => hn.1 (e ▸ hr)
    refine ⟨u, hu, hu4, hx, ?_⟩
    rw [stepT_4 hs hx hu4]
    obtain ⟨h1, h2, h3⟩ := h.qq.2.link (B := { A with K := upd A.K u (idn t), s := upd A.s t 5, x := upd A.x t 0 }) h.nd hr hs hx (fun q e => upd_ne e) upd_same (fun _ => rfl) (fun q e => ⟨upd_ne e, upd_ne e⟩) upd_same
    refine ⟨h.nd, h.lt, h.tl, fun k hk hkq => ?_, ?_, h1⟩
    · have e1 : k ≠ t := fun e => hkq (e ▸ hq)
      have e2 : k ≠ u := fun e => hkq (e ▸ h2)
      show upd A.s t 5 k = 0 ∨ (upd A.s t 5 k = 1 ∧ A.G k = 1) ∨ ((upd A.s t 5 k = 2 ∨ upd A.s t 5 k = 3) ∧ A.G k = 1 ∧ upd A.K u (idn t) k = 0)
      rw [upd_ne e1, upd_ne e2]
      exact h.out k hk hkq
    · have := h.qq.1
      unfold HdQ at this ⊢
      show (upd A.s t 5 a = 5 ∧ A.G a = 0) ∨ upd A.s t 5 a = 9 ∨ upd A.s t 5 a = 7 ∨ (upd A.s t 5 a = 6 ∧ r ≠ []) ∨ (upd A.s t 5 a = 8 ∧ ∃ q r', r = q :: r' ∧ upd A.s t 5 q = 5 ∧ upd A.x t 0 a = idn q)
      rw [upd_ne hat, upd_ne hat]
      rcases this with a1 | a1 | a1 | a1 | ⟨a1, q, r', e1, e2, e3⟩
      · exact .inl a1
      · exact .inr (.inl a1)
      · exact .inr (.inr (.inl a1))
      · exact .inr (.inr (.inr (.inl a1)))
      · have hqt : q ≠ t := fun e => by rw [e] at e2; omega
        exact .inr (.inr (.inr (.inr ⟨a1, q, r', e1, by rw [upd_ne hqt]; exact e2, e3⟩)))
/-- the gate is open -/
theorem QI.take5 (h : QI A Q) (ht : t < 4) (hs : A.s t = 5) (e : A.G t = 0) : (∃ r, Q = t :: r) ∧ QI (stepT A t) Q := by
  have hq : t ∈ Q := Classical.byContradiction fun hq => by have := h.out_s ht hq; omega
  rcases h.in_s hq with ⟨r, rfl, _⟩ | ⟨a, r, rfl, hr, hg, _⟩
  · rw [stepT_5 hs e]
    exact ⟨⟨r, rfl⟩, h.heads rfl (fun _ => rfl) (fun _ => rfl) (fun q e => upd_ne e) (fun _ _ => rfl) (.inr (.inl upd_same))⟩
  · omega
theorem QI.linked {r : List Nat} (h : QI A (t :: r)) (e : ¬ A.K t = 0) : ∃ q r', r = q :: r' ∧ A.s q = 5 ∧ A.K t = idn q := by
  cases r with
  | nil => exact absurd h.qq.2 e
  | cons q r' =>
    rcases h.qq.2.1.2 with h4 | h5
    · exact absurd h4.2.2 e
    · exact ⟨q, r', rfl, h5.1, h5.2⟩
theorem QI.drop9 {r : List Nat} (h : QI A (t :: r)) (hs : A.s t = 9) (e : A.K t = 0) : QI (stepD A t) (t :: r) := by
  rw [stepD_9 hs e]
  exact h.heads rfl (fun _ => rfl) (fun _ => rfl) (fun q e => upd_ne e) (fun _ _ => rfl) (.inr (.inr (.inl upd_same)))
theorem QI.to8 {r : List Nat} (h : QI A (t :: r)) (e : ¬ A.K t = 0) : QI { A with s := upd A.s t 8, x := upd A.x t (A.K t) } (t :: r) := by
  obtain ⟨q, r', rfl, h5, hk⟩ := h.linked e
  have hn := List.nodup_cons.1 h.nd
  have hqt : q ≠ t := fun e => hn.1 (by rw [e]; simp)
  exact h.heads rfl (fun _ => rfl) (fun _ => rfl) (fun q e => upd_ne e) (fun q e => upd_ne e) (.inr (.inr (.inr (.inr ⟨upd_same, q, r', rfl, by show upd A.s t 8 q = 5; rw [upd_ne hqt]; exact h5, by show upd A.x t (A.K t) t = _; rw [upd_same]; exact hk⟩))))
theorem QI.drop70 {r : List Nat} (h : QI A (t :: r)) (hs : A.s t = 7) (e : A.T = idn t) : r = [] ∧ QI (stepD A t) [] := by
  have hr := lastQ_head h.nd (h.tl.symm.trans e)
  subst hr
  rw [stepD_70 hs e]
  refine ⟨rfl, List.nodup_nil, by simp, rfl, fun k hk _ => ?_, trivial⟩
  show upd A.s t 0 k = 0 ∨ (upd A.s t 0 k = 1 ∧ A.G k = 1) ∨ ((upd A.s t 0 k = 2 ∨ upd A.s t 0 k = 3) ∧ A.G k = 1 ∧ A.K k = 0)
  by_cases e : k = t
  · subst e; exact .inl upd_same
  · rw [upd_ne e]; exact h.out k hk (by simpa using e)
theorem QI.drop76 {r : List Nat} (h : QI A (t :: r)) (hs : A.s t = 7) (e : ¬ A.T = idn t) : r ≠ [] ∧ QI (stepD A t) (t :: r) := by
  have hr : r ≠ [] := fun er => by subst er; exact e h.tl
  rw [stepD_76 hs e]
  exact ⟨hr, h.heads rfl (fun _ => rfl) (fun _ => rfl) (fun q e => upd_ne e) (fun _ _ => rfl) (.inr (.inr (.inr (.inl ⟨upd_same, hr⟩))))⟩
theorem QI.drop8 {r : List Nat} (h : QI A (t :: r)) (hs : A.s t = 8) : ∃ q r', r = q :: r' ∧ q < 4 ∧ A.x t = idn q ∧ A.s q = 5 ∧ QI (stepD A t) r := by
  obtain ⟨q, r', rfl, h5, hx⟩ : ∃ q r', r = q :: r' ∧ A.s q = 5 ∧ A.x t = idn q := by
    rcases h.qq.1 with ⟨b, _⟩ | b | b | ⟨b, _⟩ | ⟨_, b⟩
    · omega
    · omega
    · omega
    · omega
    · exact b
  have hq4 := h.lt q (by simp)
  have hn := List.nodup_cons.1 h.nd
  have hn2 := List.nodup_cons.1 hn.2
  have hqt : q ≠ t := fun e => hn.1 (by rw [e]; simp)
  refine ⟨q, r', rfl, hq4, hx, h5, ?_⟩
  rw [stepD_8 hs hx hq4]
  refine ⟨hn.2, fun z hz => h.lt z (List.mem_cons_of_mem _ hz), h.tl, fun k hk hkq => ?_, ?_, ?_⟩
  · show upd A.s t 0 k = 0 ∨ (upd A.s t 0 k = 1 ∧ upd A.G q 0 k = 1) ∨ ((upd A.s t 0 k = 2 ∨ upd A.s t 0 k = 3) ∧ upd A.G q 0 k = 1 ∧ A.K k = 0)
    by_cases e : k = t
    · subst e; exact .inl upd_same
    · have e2 : k ≠ q := fun e => hkq (by rw [e]; simp)
      rw [upd_ne e, upd_ne e2]
      exact h.out k hk (fun hm => by rcases List.mem_cons.1 hm with e3 | e3; exact e e3; exact hkq e3)
  · refine .inl ⟨?_, upd_same⟩
    show upd A.s t 0 q = 5
    rw [upd_ne hqt]; exact h5
  · refine h.qq.2.2.congr (fun _ _ => rfl) (fun z hz => ?_)
    have e1 : z ≠ q := fun e => hn2.1 (e ▸ hz)
    have e2 : z ≠ t := fun e => hn.1 (by rw [← e]; exact List.mem_cons_of_mem _ hz)
    exact ⟨upd_ne e1, upd_ne e2, upd_ne e2⟩
end
end Go.Proofs.Ytchgfdfdkcijnaa
