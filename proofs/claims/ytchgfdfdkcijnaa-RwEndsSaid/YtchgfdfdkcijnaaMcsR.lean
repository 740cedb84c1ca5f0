/- The lock that is a queue: whoever goes on, it comes nearer to its end, or one who would bring it nearer still may (no program in sight). -/
import Derived.Test.YtchgfdfdkcijnaaMcsQ2
namespace Go.Proofs.Ytchgfdfdkcijnaa
open Go.RowKit
/-- how far one is on its way to the Swap -/
def prF (s x : Int) : Int := if s = 3 then (if x = 0 then 3 else 2) else s
def prQ (A : QA) (t : Nat) : Int := prF (A.s t) (A.x t)
/-- how far the head is -/
def dlF (s K : Int) : Int := if s = 5 then 3 else if s = 9 then 4 else if s = 7 then 5 else if s = 6 then (if K = 0 then 6 else 7) else 8
def dlQ (A : QA) (h : Nat) : Int := dlF (A.s h) (A.K h)
/-- who brings it nearer -/
def crF (s K : Int) (h : Nat) (r : List Nat) : Nat := if s = 6 ∧ K = 0 then r.headD h else h
def crQ (A : QA) (h : Nat) (r : List Nat) : Nat := crF (A.s h) (A.K h) h r
/-- d is how far it is, c who brings it nearer; n: how often each has had it, k: how often each would -/
def RC (A : QA) (n : Nat → Nat) (k : Nat) (d : Int) (c : Nat) : List Nat → Prop
  | [] => c < 4 ∧ n c < k ∧ (∀ t, t < 4 → n t < k → prQ A t ≤ prQ A c) ∧ d = prQ A c
  | h :: r => d = dlQ A h ∧ c = crQ A h r
def lfQ (n : Nat → Nat) (k : Nat) : Int := 4 * k - (n 0 + n 1 + n 2 + n 3)
def nput (n : Nat → Nat) (t : Nat) : Nat → Nat := fun j => if j = t then n t + 1 else n j
theorem lfQ_put {n : Nat → Nat} {k t : Nat} (ht : t < 4) : lfQ (nput n t) k = lfQ n k - 1 := by
  unfold lfQ nput
  match t, ht with
  | 0, _ => simp; omega
  | 1, _ => simp; omega
  | 2, _ => simp; omega
  | 3, _ => simp; omega
def NotYet (n : Nat → Nat) (k : Nat) : Prop := ∃ t, t < 4 ∧ n t < k
theorem RC.start {A : QA} {n : Nat → Nat} {k : Nat} (h : NotYet n k) (Q : List Nat) : ∃ d c, RC A n k d c Q := by
  cases Q with
  | cons a r => exact ⟨_, _, rfl, rfl⟩
  | nil =>
    have best : ∀ (m : Nat), (∀ t, t < m → ¬ n t < k) ∨ ∃ c, c < m ∧ n c < k ∧ ∀ t, t < m → n t < k → prQ A t ≤ prQ A c := by
      intro m
      induction m with
      | zero => exact .inl fun t ht => absurd ht (by omega)
      | succ m ih =>
        by_cases hm : n m < k
        · rcases ih with ih | ⟨c, hc, hck, hb⟩
          · exact .inr ⟨m, by omega, hm, fun t ht htk => by
              by_cases e : t = m
              · subst e; omega
              · exact absurd htk (ih t (by omega))⟩
          · by_cases hp : prQ A m ≤ prQ A c
            · exact .inr ⟨c, by omega, hck, fun t ht htk => by
                by_cases e : t = m
                · subst e; exact hp
                · exact hb t (by omega) htk⟩
            · exact .inr ⟨m, by omega, hm, fun t ht htk => by
                by_cases e : t = m
                · subst e; omega
                · have := hb t (by omega) htk; omega⟩
        · rcases ih with ih | ⟨c, hc, hck, hb⟩
          · exact .inl fun t ht => by
              by_cases e : t = m
              · subst e; exact hm
              · exact ih t (by omega)
          · exact .inr ⟨c, by omega, hck, fun t ht htk => by
              by_cases e : t = m
              · subst e; exact absurd htk hm
              · exact hb t (by omega) htk⟩
    rcases best 4 with hb | ⟨c, h1, h2, h3⟩
    · obtain ⟨t, ht, htk⟩ := h; exact absurd htk (hb t ht)
    · exact ⟨_, c, h1, h2, h3, rfl⟩
/-- behind a step: nearer, or as near and the same one would bring it nearer -/
def Near (n n' : Nat → Nat) (k : Nat) (d : Int) (c t : Nat) (A' : QA) (Q' : List Nat) : Prop :=
  ¬ NotYet n' k ∨ ∃ d' c', RC A' n' k d' c' Q' ∧ (6 * lfQ n' k - d' < 6 * lfQ n k - d ∨ (6 * lfQ n' k - d' = 6 * lfQ n k - d ∧ c' = c ∧ t ≠ c))
section
variable {A : QA} {Q : List Nat} {t k c : Nat} {n : Nat → Nat} {d : Int}
theorem prQ_bd (h : QI A Q) (ht : t < 4) (hq : t ∉ Q) : 0 ≤ prQ A t ∧ prQ A t ≤ 3 := by
  unfold prQ prF
  have := h.out_s ht hq
  split
  · split <;> omega
  · omega
theorem RC.d_bd (h : QI A Q) (hn : ∀ q ∈ Q, n q < k) (hr : RC A n k d c Q) : 0 ≤ d ∧ d ≤ 8 ∧ c < 4 ∧ n c < k := by
  cases Q with
  | nil => obtain ⟨h1, h2, _, rfl⟩ := hr; have := prQ_bd h h1 (by simp); exact ⟨by omega, by omega, h1, h2⟩
  | cons a r =>
    obtain ⟨rfl, rfl⟩ := hr
    have hc : crQ A a r ∈ a :: r := by
      unfold crQ crF
      split
      · cases r <;> simp
      · simp
    refine ⟨?_, ?_, h.lt _ hc, hn _ hc⟩ <;> (unfold dlQ dlF; repeat' split) <;> omega
/-- the queue stays empty: one goes on -/
theorem near_out {A' : QA} (hp : RC A n k d c []) (ht : t < 4) (htk : n t < k) (hpt : prQ A t + 1 ≤ prQ A' t) (hps : ∀ q, q ≠ t → prQ A' q = prQ A q) : Near n n k d c t A' [] := by
  obtain ⟨h1, h2, h3, rfl⟩ := hp
  refine .inr ?_
  by_cases hb : prQ A c < prQ A' t
  · refine ⟨_, t, ⟨ht, htk, fun q hq hqk => ?_, rfl⟩, .inl (by omega)⟩
    by_cases e : q = t
    · subst e; omega
    · rw [hps q e]; have := h3 q hq hqk; omega
  · have hct : c ≠ t := fun e => by subst e; omega
    refine ⟨_, c, ⟨h1, h2, fun q hq hqk => ?_, rfl⟩, .inr ⟨by rw [hps c hct], rfl, fun e => hct e.symm⟩⟩
    rw [hps c hct]
    by_cases e : q = t
    · subst e; omega
    · rw [hps q e]; exact h3 q hq hqk
/-- the head is where it was -/
theorem near_same {A' : QA} {h : Nat} {r r' : List Nat} (hp : RC A n k d c (h :: r)) (hs : A'.s h = A.s h) (hk : A'.K h = A.K h) (hr : r'.headD h = r.headD h) (hc : t ≠ c) : Near n n k d c t A' (h :: r') := by
  obtain ⟨rfl, rfl⟩ := hp
  refine .inr ⟨_, _, ⟨rfl, rfl⟩, .inr ⟨?_, ?_, hc⟩⟩
  · unfold dlQ; rw [hs, hk]
  · unfold crQ; rw [hs, hk]; unfold crF; rw [hr]
theorem near_less {A' : QA} {h : Nat} {r r' : List Nat} (hp : RC A n k d c (h :: r)) (hd : dlQ A h < dlQ A' h) : Near n n k d c t A' (h :: r') := by
  obtain ⟨rfl, rfl⟩ := hp
  exact .inr ⟨_, _, ⟨rfl, rfl⟩, .inl (by omega)⟩
theorem cr_mem {h : Nat} {r : List Nat} : crQ A h r ∈ h :: r := by
  unfold crQ crF
  split
  · cases r <;> simp
  · simp
/-- who is out of the queue goes on -/
theorem QI.nearOut (h : QI A Q) (ht : t < 4) (htk : n t < k) (hr : RC A n k d c Q) (hs : A.s t = 0 ∨ A.s t = 1 ∨ A.s t = 2 ∨ (A.s t = 3 ∧ ¬ A.T = A.x t)) : Near n n k d c t (stepT A t) Q := by
  have hq := h.notin ht (by omega)
  have hss : ∀ q, q ≠ t → (stepT A t).s q = A.s q := fun q e => by
    rcases hs with a | a | a | ⟨a, b⟩
    · rw [stepT_0 a]; exact upd_ne e
    · rw [stepT_1 a]; exact upd_ne e
    · rw [stepT_2 a]; exact upd_ne e
    · rw [stepT_3no a b]
  have hxx : ∀ q, q ≠ t → (stepT A t).x q = A.x q := fun q e => by
    rcases hs with a | a | a | ⟨a, b⟩
    · rw [stepT_0 a]
    · rw [stepT_1 a]
    · rw [stepT_2 a]; exact upd_ne e
    · rw [stepT_3no a b]; exact upd_ne e
  have hkk : ∀ q, q ≠ t → (stepT A t).K q = A.K q := fun q e => by
    rcases hs with a | a | a | ⟨a, b⟩
    · rw [stepT_0 a]
    · rw [stepT_1 a]; exact upd_ne e
    · rw [stepT_2 a]
    · rw [stepT_3no a b]
  cases Q with
  | nil =>
    have hT : A.T = 0 := h.tl
    refine near_out hr ht htk ?_ (fun q e => by unfold prQ; rw [hss q e, hxx q e])
    rcases hs with a | a | a | ⟨a, b⟩
    · rw [stepT_0 a]; unfold prQ; dsimp only; rw [upd_same, a]; simp [prF]
    · rw [stepT_1 a]; unfold prQ; dsimp only; rw [upd_same, a]; simp [prF]
    · rw [stepT_2 a]; unfold prQ; dsimp only; rw [upd_same, upd_same, a, hT]; simp [prF]
    · have hx : A.x t ≠ 0 := fun e => b (hT.trans e.symm)
      rw [stepT_3no a b]; unfold prQ; dsimp only; rw [upd_same, a, hT]; simp [prF, hx]
  | cons a r =>
    have hat : a ≠ t := fun e => hq (by rw [e]; simp)
    refine near_same hr (hss a hat) (hkk a hat) rfl (fun e => hq ?_)
    rw [e, hr.2]; exact cr_mem
theorem QI.near3z (h : QI A Q) (ht : t < 4) (hr : RC A n k d c Q) (hs : A.s t = 3) (e : A.T = A.x t) (e0 : A.x t = 0) : Near n n k d c t (stepT A t) [t] := by
  obtain ⟨rfl, _⟩ := h.take3z ht hs e e0
  obtain ⟨h1, h2, h3, rfl⟩ := hr
  have := prQ_bd h h1 (by simp)
  refine .inr ⟨_, _, ⟨rfl, rfl⟩, .inl ?_⟩
  have : dlQ (stepT A t) t = 4 := by rw [stepT_3z hs e e0]; unfold dlQ; dsimp only; rw [upd_same]; simp [dlF]
  omega
theorem QI.near3q (h : QI A Q) (ht : t < 4) (hr : RC A n k d c Q) (hs : A.s t = 3) (e : A.T = A.x t) (e0 : ¬ A.x t = 0) : Near n n k d c t (stepT A t) (Q ++ [t]) := by
  have hq := h.notin ht (by omega)
  have hQ := (h.take3q ht hs e e0).1
  cases Q with
  | nil => exact absurd rfl hQ
  | cons a r =>
    have hat : a ≠ t := fun e => hq (by rw [e]; simp)
    rw [stepT_3q hs e e0]
    have hc : t ≠ c := fun e => hq (by rw [e, hr.2]; exact cr_mem)
    cases r with
    | cons b r => exact near_same hr (upd_ne hat) rfl rfl hc
    | nil =>
      obtain ⟨rfl, rfl⟩ := hr
      have h6 : ¬ A.s a = 6 := fun e => by
        rcases h.qq.1 with ⟨b, _⟩ | b | b | ⟨_, b⟩ | ⟨b, _⟩
        · omega
        · omega
        · omega
        · exact b rfl
        · omega
      refine .inr ⟨_, _, ⟨rfl, rfl⟩, .inr ⟨?_, ?_, hc⟩⟩
      · unfold dlQ; dsimp only; rw [upd_ne hat]
      · unfold crQ; dsimp only; rw [upd_ne hat]; simp [crF, h6]
theorem QI.near4 (h : QI A Q) (ht : t < 4) (hr : RC A n k d c Q) (hs : A.s t = 4) : Near n n k d c t (stepT A t) Q := by
  obtain ⟨u, hu, hu4, hx, _⟩ := h.take4 ht hs
  have hq : t ∈ Q := Classical.byContradiction fun hq => by have := h.out_s ht hq; omega
  rw [stepT_4 hs hx hu4]
  rcases h.in_s hq with ⟨r, e, h5⟩ | ⟨a, r, rfl, hm, hg, _⟩
  · rcases h5 with ⟨b, _⟩ | b | b | ⟨b, _⟩ | ⟨b, _⟩ <;> omega
  · have hn := List.nodup_cons.1 h.nd
    have hat : a ≠ t := fun e => hn.1 (e ▸ hm)
    by_cases hua : u = a
    · subst hua
      by_cases h6 : A.s u = 6
      · by_cases hk : A.K u = 0
        · refine near_less hr ?_
          unfold dlQ; dsimp only; rw [upd_ne hat, upd_same, h6, hk]; simp [dlF, idn_ne0 t]
        · exfalso
          -- linked already: then t is not at 4
          obtain ⟨q, r', rfl, h5, hkq⟩ := h.linked hk
          rcases List.mem_cons.1 hm with e | hm
          · subst e; omega
          · have hlk := h.qq.2.2
            obtain ⟨v, hv, hxv⟩ := hlk.pred hm hs
            have : u = v := idn_inj (hx.symm.trans hxv)
            subst this
            exact hn.1 hv
      · obtain ⟨rfl, rfl⟩ := hr
        refine .inr ⟨_, _, ⟨rfl, rfl⟩, .inr ⟨?_, ?_, ?_⟩⟩
        · unfold dlQ; dsimp only; rw [upd_ne hat]; simp [dlF, h6]
        · unfold crQ; dsimp only; rw [upd_ne hat]; simp [crF, h6]
        · unfold crQ crF; rw [if_neg (fun e => h6 e.1)]; exact fun e => hat e.symm
    · have hau : a ≠ u := fun e => hua e.symm
      refine near_same hr (upd_ne hat) (upd_ne hau) rfl (fun e => ?_)
      obtain ⟨rfl, rfl⟩ := hr
      unfold crQ crF at e
      by_cases h6 : A.s a = 6 ∧ A.K a = 0
      · rw [if_pos h6] at e
        cases r with
        | nil => exact absurd hm (by simp)
        | cons b r =>
          have e' : t = b := e
          subst e'
          rcases h.qq.2.1.2 with h4 | h5
          · exact hua (idn_inj (hx.symm.trans h4.2.1))
          · omega
      · rw [if_neg h6] at e; exact hat e.symm
theorem QI.near5 (h : QI A Q) (ht : t < 4) (hr : RC A n k d c Q) (hs : A.s t = 5) (e : A.G t = 0) : Near n n k d c t (stepT A t) Q := by
  obtain ⟨⟨r, rfl⟩, _⟩ := h.take5 ht hs e
  rw [stepT_5 hs e]
  refine near_less hr ?_
  unfold dlQ; dsimp only; rw [upd_same, hs]; simp [dlF]
theorem QI.near5w (h : QI A Q) (ht : t < 4) (hr : RC A n k d c Q) (hs : A.s t = 5) (e : ¬ A.G t = 0) : Near n n k d c t (stepT A t) Q := by
  have hq : t ∈ Q := Classical.byContradiction fun hq => by have := h.out_s ht hq; omega
  rw [stepT_5w hs e]
  rcases h.in_s hq with ⟨r, rfl, h5⟩ | ⟨a, r, rfl, hm, hg, _⟩
  · exfalso; rcases h5 with ⟨_, b⟩ | b | b | ⟨b, _⟩ | ⟨b, _⟩
    · exact e b
    · omega
    · omega
    · omega
    · omega
  · have hn := List.nodup_cons.1 h.nd
    have hat : a ≠ t := fun e => hn.1 (e ▸ hm)
    refine near_same hr rfl rfl rfl (fun e => ?_)
    rw [hr.2] at e
    unfold crQ crF at e
    by_cases h6 : A.s a = 6 ∧ A.K a = 0
    · rw [if_pos h6] at e
      cases r with
      | nil => exact absurd hm (by simp)
      | cons b r =>
        have e' : t = b := e
        subst e'
        rcases h.qq.2.1.2 with h4 | h5
        · omega
        · exact idn_ne0 t (h5.2.symm.trans h6.2)
    · rw [if_neg h6] at e; exact hat e.symm
theorem QI.nearD {r : List Nat} (h : QI A (t :: r)) (hr : RC A n k d c (t :: r)) (hs : A.s t = 9 ∨ A.s t = 6 ∨ (A.s t = 7 ∧ ¬ A.T = idn t)) : Near n n k d c t (stepD A t) (t :: r) := by
  rcases hs with hs | hs | ⟨hs, e⟩
  · refine near_less hr ?_
    by_cases e : A.K t = 0
    · rw [stepD_9 hs e]; unfold dlQ; dsimp only; rw [upd_same, hs]; simp [dlF]
    · rw [stepD_98 hs e]; unfold dlQ; dsimp only; rw [upd_same, hs]; simp [dlF]
  · by_cases e : A.K t = 0
    · rw [stepD_6w hs e]
      refine near_same hr rfl rfl rfl ?_
      rw [hr.2]; unfold crQ crF; rw [if_pos ⟨hs, e⟩]
      have hn := List.nodup_cons.1 h.nd
      cases r with
      | nil =>
        exfalso
        rcases h.qq.1 with ⟨b, _⟩ | b | b | ⟨_, b⟩ | ⟨b, _⟩
        · omega
        · omega
        · omega
        · exact b rfl
        · omega
      | cons b r => exact fun e => hn.1 (by have e' : t = b := e; rw [e']; simp)
    · rw [stepD_68 hs e]
      refine near_less hr ?_
      unfold dlQ; dsimp only; rw [upd_same, hs]; simp [dlF, e]
  · rw [stepD_76 hs e]
    refine near_less hr ?_
    unfold dlQ; dsimp only; rw [upd_same, hs]; have h3 : dlF 7 (A.K t) = 5 := by simp [dlF]
    have h4 : 6 ≤ dlF 6 (A.K t) := by simp only [dlF]; simp; split <;> decide
    omega
theorem QI.near70 {r : List Nat} (h : QI A (t :: r)) (ht : t < 4) (hr : RC A n k d c (t :: r)) (hs : A.s t = 7) (e : A.T = idn t) : Near n (nput n t) k d c t (stepD A t) [] := by
  obtain ⟨_, hI⟩ := h.drop70 hs e
  by_cases hny : NotYet (nput n t) k
  · obtain ⟨d', c', hr'⟩ := RC.start (A := stepD A t) hny []
    have hb := (RC.d_bd hI (by simp) hr').1
    refine .inr ⟨d', c', hr', .inl ?_⟩
    have hd : d = 5 := by rw [hr.1]; unfold dlQ; rw [hs]; simp [dlF]
    rw [lfQ_put ht, hd]; omega
  · exact .inl hny
theorem QI.near8 {r : List Nat} (h : QI A (t :: r)) (ht : t < 4) (hr : RC A n k d c (t :: r)) (hs : A.s t = 8) : Near n (nput n t) k d c t (stepD A t) r := by
  obtain ⟨q, r', rfl, hq4, hx, h5, _⟩ := h.drop8 hs
  have hn := List.nodup_cons.1 h.nd
  have hqt : q ≠ t := fun e => hn.1 (by rw [e]; simp)
  refine .inr ⟨_, _, ⟨rfl, rfl⟩, .inl ?_⟩
  have hd : d = 8 := by rw [hr.1]; unfold dlQ; rw [hs]; simp [dlF]
  have hd' : dlQ (stepD A t) q = 3 := by rw [stepD_8 hs hx hq4]; unfold dlQ; dsimp only; rw [upd_ne hqt, h5]; simp [dlF]
  rw [lfQ_put ht, hd, hd']; omega
end
end Go.Proofs.Ytchgfdfdkcijnaa
