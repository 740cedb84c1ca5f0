/- Four hands at a lock that is a queue: what the words and the hands are, and which lists come of it (no program in sight). -/
import Derived.Test.YtchgfdfdkcijnaaMcsR
import Derived.Test.YtchgfdfdkcijnaaMcsAll
namespace Go.Proofs.Ytchgfdfdkcijnaa
open Go.RowKit
/-- the memory holds these words -/
structure View (M : MemS) (A : QA) : Prop where
  len : M.L.length = 48
  T : A.T = M.word (tlA 0)
  G : ∀ t, t < 4 → A.G t = M.word (ndA t 0 0)
  K : ∀ t, t < 4 → A.K t = M.word (ndA t 0 1)
section
variable {M M' : MemS} {A : QA} {u : Nat} {v o : Int}
theorem View.same (h : View M A) {B : QA} (hT : B.T = A.T) (hG : B.G = A.G) (hK : B.K = A.K) : View M B := ⟨h.len, hT.trans h.T, fun t ht => by rw [hG]; exact h.G t ht, fun t ht => by rw [hK]; exact h.K t ht⟩
theorem View.load (h : View M A) (i : Nat) : View (M.load i) A := ⟨h.len, h.T, h.G, h.K⟩
theorem nd_lt48 {t p : Nat} (ht : t < 4) (hp : p < 2) : ndA t 0 p < 48 := by unfold ndA; omega
theorem View.putG (h : View M A) (hu : u < 4) (v : Int) : View (M.store (ndA u 0 0) v) { A with G := upd A.G u v } := by
  have hi : ndA u 0 0 < M.L.length := by rw [h.len]; exact nd_lt48 hu (by decide)
  refine ⟨lenM_store.trans h.len, ?_, fun t ht => ?_, fun t ht => ?_⟩
  · rw [wordM_store hi, if_neg (by unfold tlA ndA; omega)]; exact h.T
  · rw [wordM_store hi]
    show upd A.G u v t = _
    by_cases e : t = u
    · subst e; rw [upd_same, if_pos rfl]
    · rw [upd_ne e, if_neg (by unfold ndA; omega)]; exact h.G t ht
  · rw [wordM_store hi, if_neg (by unfold ndA; omega)]; exact h.K t ht
theorem View.putK (h : View M A) (hu : u < 4) (v : Int) : View (M.store (ndA u 0 1) v) { A with K := upd A.K u v } := by
  have hi : ndA u 0 1 < M.L.length := by rw [h.len]; exact nd_lt48 hu (by decide)
  refine ⟨lenM_store.trans h.len, ?_, fun t ht => ?_, fun t ht => ?_⟩
  · rw [wordM_store hi, if_neg (by unfold tlA ndA; omega)]; exact h.T
  · rw [wordM_store hi, if_neg (by unfold ndA; omega)]; exact h.G t ht
  · rw [wordM_store hi]
    show upd A.K u v t = _
    by_cases e : t = u
    · subst e; rw [upd_same, if_pos rfl]
    · rw [upd_ne e, if_neg (by unfold ndA; omega)]; exact h.K t ht
theorem View.swap (h : View M A) (o v : Int) : View (M.swap (tlA 0) o v) { A with T := if A.T = o then v else A.T } := by
  have hi : tlA 0 < M.L.length := by rw [h.len]; decide
  refine ⟨lenM_swap.trans h.len, ?_, fun t ht => ?_, fun t ht => ?_⟩
  · rw [wordM_swap hi]
    show (if A.T = o then v else A.T) = _
    rw [h.T]
    by_cases e : M.word (tlA 0) = o
    · rw [if_pos e, if_pos ⟨rfl, e⟩]
    · rw [if_neg e, if_neg (fun x => e x.2)]
  · show A.G t = _; rw [wordM_swap hi, if_neg (fun x => by have := x.1; unfold tlA ndA at this; omega)]; exact h.G t ht
  · show A.K t = _; rw [wordM_swap hi, if_neg (fun x => by have := x.1; unfold tlA ndA at this; omega)]; exact h.K t ht
end
/-- what a step's access is -/
def swD (M : MemS) : Bool := decide (M.last.k = 3) && M.last.done
theorem swD_load (M : MemS) (i : Nat) : swD (M.load i) = false := rfl
theorem swD_store (M : MemS) (i : Nat) (v : Int) : swD (M.store i v) = false := rfl
theorem swD_swap (M : MemS) (i : Nat) (o v : Int) : swD (M.swap i o v) = (M.word i == o) := by unfold swD MemS.swap; simp [MemS.did]
/-- hand t's step to hold it: the memory and the words agree; did it put itself into the queue? -/
theorem take_view {M : MemS} {A : QA} {t : Nat} (hv : View M A) (ht : t < 4) (hs : A.s t = 0 ∨ A.s t = 1 ∨ A.s t = 2 ∨ A.s t = 3 ∨ A.s t = 5 ∨ (A.s t = 4 ∧ ∃ u, u < 4 ∧ A.x t = idn u)) (r : Bool) :
    ∃ M', mTake M t 0 (A.s t) r (A.x t) = (M', ⟨t, ((0 : Nat) : Int), (stepT A t).s t, r, (stepT A t).x t⟩) ∧ View M' (stepT A t) ∧ M'.st = wrap64 (M.st + 1) ∧ swD M' = decide (A.s t = 3 ∧ A.T = A.x t) := by
  rcases hs with a | a | a | a | a | ⟨a, u, hu, hx⟩
  · refine ⟨_, ?_, (hv.putG ht 1).same (B := stepT A t) ?_ ?_ ?_, rfl, ?_⟩
    · rw [stepT_0 a, a]; dsimp only; rw [upd_same]; rfl
    · rw [stepT_0 a]
    · rw [stepT_0 a]
    · rw [stepT_0 a]
    · rw [swD_store, a]; simp
  · refine ⟨_, ?_, (hv.putK ht 0).same (B := stepT A t) ?_ ?_ ?_, rfl, ?_⟩
    · rw [stepT_1 a, a]; dsimp only; rw [upd_same]; rfl
    · rw [stepT_1 a]
    · rw [stepT_1 a]
    · rw [stepT_1 a]
    · rw [swD_store, a]; simp
  · refine ⟨_, ?_, (hv.load (tlA 0)).same (B := stepT A t) ?_ ?_ ?_, rfl, ?_⟩
    · rw [stepT_2 a, a]; dsimp only; rw [upd_same, upd_same, hv.T]; rfl
    · rw [stepT_2 a]
    · rw [stepT_2 a]
    · rw [stepT_2 a]
    · rw [swD_load, a]; simp
  · have hm : mTake M t 0 (A.s t) r (A.x t) = (M.swap (tlA 0) (A.x t) (idn t), if A.T = A.x t then (if A.x t = 0 then ⟨t, ((0 : Nat) : Int), 9, r, A.x t⟩ else ⟨t, ((0 : Nat) : Int), 4, r, A.x t⟩) else ⟨t, ((0 : Nat) : Int), 3, r, A.T⟩) := by
      rw [a, hv.T]; unfold mTake; rw [if_neg (by decide), if_neg (by decide), if_neg (by decide), if_pos rfl, idn_eq]
    have hd : swD (M.swap (tlA 0) (A.x t) (idn t)) = decide (A.s t = 3 ∧ A.T = A.x t) := by
      rw [swD_swap, ← hv.T, a, Bool.eq_iff_iff]; simp
    by_cases e : A.T = A.x t
    · by_cases e0 : A.x t = 0
      · refine ⟨_, ?_, (hv.swap (A.x t) (idn t)).same (B := stepT A t) ?_ ?_ ?_, rfl, hd⟩
        · rw [hm, if_pos e, if_pos e0, stepT_3z a e e0]; dsimp only; rw [upd_same]
        · rw [stepT_3z a e e0]; dsimp only; rw [if_pos e]
        · rw [stepT_3z a e e0]
        · rw [stepT_3z a e e0]
      · refine ⟨_, ?_, (hv.swap (A.x t) (idn t)).same (B := stepT A t) ?_ ?_ ?_, rfl, hd⟩
        · rw [hm, if_pos e, if_neg e0, stepT_3q a e e0]; dsimp only; rw [upd_same]
        · rw [stepT_3q a e e0]; dsimp only; rw [if_pos e]
        · rw [stepT_3q a e e0]
        · rw [stepT_3q a e e0]
    · refine ⟨_, ?_, (hv.swap (A.x t) (idn t)).same (B := stepT A t) ?_ ?_ ?_, rfl, hd⟩
      · rw [hm, if_neg e, stepT_3no a e]; dsimp only; rw [upd_same, a]
      · rw [stepT_3no a e]; dsimp only; rw [if_neg e]
      · rw [stepT_3no a e]
      · rw [stepT_3no a e]
  · have hg := hv.G t ht
    by_cases e : A.G t = 0
    · refine ⟨_, ?_, (hv.load (ndA t 0 0)).same (B := stepT A t) ?_ ?_ ?_, rfl, ?_⟩
      · rw [stepT_5 a e, a]; unfold mTake; rw [if_neg (by decide), if_neg (by decide), if_neg (by decide), if_neg (by decide), if_neg (by decide), if_pos rfl, ← hg, if_pos e]; dsimp only; rw [upd_same]
      · rw [stepT_5 a e]
      · rw [stepT_5 a e]
      · rw [stepT_5 a e]
      · rw [swD_load, a]; simp
    · refine ⟨_, ?_, (hv.load (ndA t 0 0)).same (B := stepT A t) ?_ ?_ ?_, rfl, ?_⟩
      · rw [stepT_5w a e, a]; unfold mTake; rw [if_neg (by decide), if_neg (by decide), if_neg (by decide), if_neg (by decide), if_neg (by decide), if_pos rfl, ← hg, if_neg e]
      · rw [stepT_5w a e]
      · rw [stepT_5w a e]
      · rw [stepT_5w a e]
      · rw [swD_load, a]; simp
  · refine ⟨_, ?_, (hv.putK hu (idn t)).same (B := stepT A t) ?_ ?_ ?_, rfl, ?_⟩
    · rw [stepT_4 a hx hu, a]; dsimp only; rw [upd_same, upd_same]
      unfold mTake; rw [if_neg (by decide), if_neg (by decide), if_neg (by decide), if_neg (by decide), if_pos rfl, hx, thN_idn hu, idn_eq]
    · rw [stepT_4 a hx hu]
    · rw [stepT_4 a hx hu]
    · rw [stepT_4 a hx hu]
    · rw [swD_store, a]; simp
/-- hand t's step to let the next one in -/
theorem drop_view {M : MemS} {A : QA} {t : Nat} (hv : View M A) (ht : t < 4) (hs : A.s t = 9 ∨ A.s t = 6 ∨ A.s t = 7 ∨ (A.s t = 8 ∧ ∃ u, u < 4 ∧ A.x t = idn u)) (r : Bool) :
    ∃ M', mDrop M t 0 (A.s t) r (A.x t) = (M', ⟨t, ((0 : Nat) : Int), (stepD A t).s t, r, (stepD A t).x t⟩) ∧ View M' (stepD A t) ∧ M'.st = wrap64 (M.st + 1) := by
  have hk := hv.K t ht
  rcases hs with a | a | a | ⟨a, u, hu, hx⟩
  · by_cases e : A.K t = 0
    · refine ⟨_, ?_, (hv.load (ndA t 0 1)).same (B := stepD A t) ?_ ?_ ?_, rfl⟩
      · rw [stepD_9 a e, a]; unfold mDrop; rw [if_pos (.inl rfl), ← hk, if_pos e]; dsimp only; rw [upd_same]; rfl
      · rw [stepD_9 a e]
      · rw [stepD_9 a e]
      · rw [stepD_9 a e]
    · refine ⟨_, ?_, (hv.load (ndA t 0 1)).same (B := stepD A t) ?_ ?_ ?_, rfl⟩
      · rw [stepD_98 a e, a]; unfold mDrop; rw [if_pos (.inl rfl), ← hk, if_neg e]; dsimp only; rw [upd_same, upd_same]
      · rw [stepD_98 a e]
      · rw [stepD_98 a e]
      · rw [stepD_98 a e]
  · by_cases e : A.K t = 0
    · refine ⟨_, ?_, (hv.load (ndA t 0 1)).same (B := stepD A t) ?_ ?_ ?_, rfl⟩
      · rw [stepD_6w a e, a]; unfold mDrop; rw [if_pos (.inr rfl), ← hk, if_pos e]; rfl
      · rw [stepD_6w a e]
      · rw [stepD_6w a e]
      · rw [stepD_6w a e]
    · refine ⟨_, ?_, (hv.load (ndA t 0 1)).same (B := stepD A t) ?_ ?_ ?_, rfl⟩
      · rw [stepD_68 a e, a]; unfold mDrop; rw [if_pos (.inr rfl), ← hk, if_neg e]; dsimp only; rw [upd_same, upd_same]
      · rw [stepD_68 a e]
      · rw [stepD_68 a e]
      · rw [stepD_68 a e]
  · have hm : mDrop M t 0 (A.s t) r (A.x t) = (M.swap (tlA 0) (idn t) 0, ⟨t, ((0 : Nat) : Int), if A.T = idn t then 0 else 6, r, A.x t⟩) := by
      rw [a, hv.T]; unfold mDrop; rw [if_neg (by decide), if_pos rfl, idn_eq]
    by_cases e : A.T = idn t
    · refine ⟨_, ?_, (hv.swap (idn t) 0).same (B := stepD A t) ?_ ?_ ?_, rfl⟩
      · rw [hm, if_pos e, stepD_70 a e]; dsimp only; rw [upd_same]
      · rw [stepD_70 a e]; dsimp only; rw [if_pos e]
      · rw [stepD_70 a e]
      · rw [stepD_70 a e]
    · refine ⟨_, ?_, (hv.swap (idn t) 0).same (B := stepD A t) ?_ ?_ ?_, rfl⟩
      · rw [hm, if_neg e, stepD_76 a e]; dsimp only; rw [upd_same]
      · rw [stepD_76 a e]; dsimp only; rw [if_neg e]
      · rw [stepD_76 a e]
      · rw [stepD_76 a e]
  · refine ⟨_, ?_, (hv.putG hu 0).same (B := stepD A t) ?_ ?_ ?_, rfl⟩
    · rw [stepD_8 a hx hu, a]; dsimp only; rw [upd_same, upd_same]
      unfold mDrop; rw [if_neg (by decide), if_neg (by decide), if_pos rfl, hx, thN_idn hu]
    · rw [stepD_8 a hx hu]
    · rw [stepD_8 a hx hu]
    · rw [stepD_8 a hx hu]
/-- who has had it, in order: those that are done, and the head if it has it -/
def hadQ (A : QA) (dn : List Nat) : List Nat → List Nat
  | [] => dn
  | h :: _ => if A.s h = 5 then dn else dn ++ [h]
theorem hadQ_nil {A : QA} {dn : List Nat} : hadQ A dn [] = dn := rfl
theorem hadQ_cons {A : QA} {dn r : List Nat} {h : Nat} : hadQ A dn (h :: r) = if A.s h = 5 then dn else dn ++ [h] := rfl
def isOut (s : Int) : Prop := s = 9 ∨ s = 7 ∨ s = 6 ∨ s = 8
structure PyS (k : Nat) (M : MemS) (n : Nat → Nat) (dn Q : List Nat) (A : QA) : Prop where
  v : View M A
  q : QI A Q
  nq : ∀ q ∈ Q, n q < k
  nk : ∀ t, t < 4 → n t ≤ k
  cn : dn.length = n 0 + n 1 + n 2 + n 3
  sz : ∀ t, t < 4 → isOut (A.s t) → ∃ r, Q = t :: r
theorem PyS.mk' {k : Nat} {M : MemS} {n : Nat → Nat} {dn Q : List Nat} {A : QA} (v : View M A) (q : QI A Q) (nq : ∀ q ∈ Q, n q < k) (nk : ∀ t, t < 4 → n t ≤ k) (cn : dn.length = n 0 + n 1 + n 2 + n 3) : PyS k M n dn Q A :=
  ⟨v, q, nq, nk, cn, fun t ht h => q.head ht (by unfold isOut at h; omega)⟩
theorem PyS.take {k : Nat} {M : MemS} {n : Nat → Nat} {dn Q : List Nat} {A : QA} {t : Nat} (h : PyS k M n dn Q A) (ht : t < 4) (htk : n t < k) (hs : ¬ isOut (A.s t)) (r : Bool) :
    ∃ M' A' Q', mTake M t 0 (A.s t) r (A.x t) = (M', ⟨t, ((0 : Nat) : Int), A'.s t, r, A'.x t⟩) ∧ PyS k M' n dn Q' A' ∧ M'.st = wrap64 (M.st + 1) ∧ (∀ q, q ≠ t → A'.s q = A.s q ∧ A'.x q = A.x q) ∧
      dn ++ Q' = (if swD M' then dn ++ Q ++ [t] else dn ++ Q) ∧ hadQ A' dn Q' = (if A'.s t = 9 then hadQ A dn Q ++ [t] else hadQ A dn Q) ∧ (isOut (A'.s t) → A'.s t = 9) ∧ (∀ d c, RC A n k d c Q → Near n n k d c t A' Q') := by
  have hsx : (∀ q, q ≠ t → (stepT A t).s q = A.s q ∧ (stepT A t).x q = A.x q) := fun q e => by
    unfold stepT
    repeat' split
    all_goals first | exact ⟨rfl, rfl⟩ | exact ⟨upd_ne e, rfl⟩ | exact ⟨rfl, upd_ne e⟩ | exact ⟨upd_ne e, upd_ne e⟩
  have hin : t ∈ Q → A.s t = 4 ∨ A.s t = 5 := fun hq => by
    rcases h.q.in_s hq with ⟨r, _, h5⟩ | ⟨_, _, _, _, _, e⟩
    · unfold isOut at hs
      rcases h5 with ⟨b, _⟩ | b | b | ⟨b, _⟩ | ⟨b, _⟩ <;> omega
    · exact e
  have hst : A.s t = 0 ∨ A.s t = 1 ∨ A.s t = 2 ∨ (A.s t = 3 ∧ ¬ A.T = A.x t) ∨ (A.s t = 3 ∧ A.T = A.x t ∧ A.x t = 0) ∨ (A.s t = 3 ∧ A.T = A.x t ∧ ¬ A.x t = 0) ∨ A.s t = 4 ∨ (A.s t = 5 ∧ A.G t = 0) ∨ (A.s t = 5 ∧ ¬ A.G t = 0) := by
    by_cases hq : t ∈ Q
    · have := hin hq; omega
    · have := h.q.out_s ht hq; omega
  have hne : ∀ {a r}, Q = a :: r → t ∉ Q → a ≠ t := fun e hq e2 => hq (by rw [e, e2]; simp)
  -- had stays where the head's state is not turned
  have keep : ∀ A' : QA, (∀ q, q ≠ t → A'.s q = A.s q ∧ A'.x q = A.x q) → (∀ a r, Q = a :: r → a ≠ t ∨ (A'.s t = 5 ↔ A.s t = 5)) → hadQ A' dn Q = hadQ A dn Q := fun A' hh ha => by
    cases hQ : Q with
    | nil => rfl
    | cons a r =>
      have h1 : (A'.s a = 5 ↔ A.s a = 5) := by
        by_cases e : a = t
        · rcases ha a r hQ with e2 | e2
          · exact absurd e e2
          · rw [e]; exact e2
        · rw [(hh a e).1]
      simp only [hadQ_nil, hadQ_cons]
      by_cases e : A.s a = 5
      · rw [if_pos e, if_pos (h1.2 e)]
      · rw [if_neg e, if_neg (fun x => e (h1.1 x))]
  have mk : ∀ {Q'}, QI (stepT A t) Q' → (∀ M', View M' (stepT A t) → (∀ q ∈ Q', n q < k) → PyS k M' n dn Q' (stepT A t)) := fun hq M' hv hn => PyS.mk' hv hq hn h.nk h.cn
  rcases hst with a | a | a | ⟨a, e⟩ | ⟨a, e, e0⟩ | ⟨a, e, e0⟩ | a | ⟨a, e⟩ | ⟨a, e⟩
  · obtain ⟨M', h1, h2, h3, h4⟩ := take_view h.v ht (.inl a) r
    have hq := h.q.notin ht (.inl a)
    have hd : swD M' = false := by rw [h4, a]; simp
    have h9 : (stepT A t).s t = 1 := by rw [stepT_0 a]; exact upd_same
    refine ⟨M', _, Q, h1, mk (h.q.take0 ht a) M' h2 h.nq, h3, hsx, by rw [hd]; rfl, ?_, fun x => by rw [h9] at x; unfold isOut at x; omega, fun d c hr => h.q.nearOut ht htk hr (.inl a)⟩
    rw [if_neg (by rw [h9]; decide)]
    exact keep _ hsx fun b r eb => .inl (hne eb hq)
  · obtain ⟨M', h1, h2, h3, h4⟩ := take_view h.v ht (.inr (.inl a)) r
    have hq := h.q.notin ht (.inr (.inl a))
    have hd : swD M' = false := by rw [h4, a]; simp
    have h9 : (stepT A t).s t = 2 := by rw [stepT_1 a]; exact upd_same
    refine ⟨M', _, Q, h1, mk (h.q.take1 ht a) M' h2 h.nq, h3, hsx, by rw [hd]; rfl, ?_, fun x => by rw [h9] at x; unfold isOut at x; omega, fun d c hr => h.q.nearOut ht htk hr (.inr (.inl a))⟩
    rw [if_neg (by rw [h9]; decide)]
    exact keep _ hsx fun b r eb => .inl (hne eb hq)
  · obtain ⟨M', h1, h2, h3, h4⟩ := take_view h.v ht (.inr (.inr (.inl a))) r
    have hq := h.q.notin ht (.inr (.inr (.inl a)))
    have hd : swD M' = false := by rw [h4, a]; simp
    have h9 : (stepT A t).s t = 3 := by rw [stepT_2 a]; exact upd_same
    refine ⟨M', _, Q, h1, mk (h.q.take2 ht a) M' h2 h.nq, h3, hsx, by rw [hd]; rfl, ?_, fun x => by rw [h9] at x; unfold isOut at x; omega, fun d c hr => h.q.nearOut ht htk hr (.inr (.inr (.inl a)))⟩
    rw [if_neg (by rw [h9]; decide)]
    exact keep _ hsx fun b r eb => .inl (hne eb hq)
  · obtain ⟨M', h1, h2, h3, h4⟩ := take_view h.v ht (.inr (.inr (.inr (.inl a)))) r
    have hq := h.q.notin ht (.inr (.inr (.inr a)))
    have hd : swD M' = false := by rw [h4]; simp [e]
    have h9 : (stepT A t).s t = 3 := by rw [stepT_3no a e]; exact a
    refine ⟨M', _, Q, h1, mk (h.q.take3no ht a e) M' h2 h.nq, h3, hsx, by rw [hd]; rfl, ?_, fun x => by rw [h9] at x; unfold isOut at x; omega, fun d c hr => h.q.nearOut ht htk hr (.inr (.inr (.inr ⟨a, e⟩)))⟩
    rw [if_neg (by rw [h9]; decide)]
    exact keep _ hsx fun b r eb => .inl (hne eb hq)
  · obtain ⟨M', h1, h2, h3, h4⟩ := take_view h.v ht (.inr (.inr (.inr (.inl a)))) r
    obtain ⟨hQ, hI⟩ := h.q.take3z ht a e e0
    have hd : swD M' = true := by rw [h4]; simp [a, e]
    have h9 : (stepT A t).s t = 9 := by rw [stepT_3z a e e0]; exact upd_same
    refine ⟨M', _, [t], h1, mk hI M' h2 (fun q hm => by have : q = t := by simpa using hm
                                                        rw [this]; exact htk), h3, hsx, by rw [hd, hQ]; simp, ?_, fun _ => h9, fun d c hr => h.q.near3z ht hr a e e0⟩
    rw [if_pos h9, hQ]
    simp only [hadQ_nil, hadQ_cons]
    rw [if_neg (by rw [h9]; decide)]
  · obtain ⟨M', h1, h2, h3, h4⟩ := take_view h.v ht (.inr (.inr (.inr (.inl a)))) r
    obtain ⟨hQ, hI⟩ := h.q.take3q ht a e e0
    have hq := h.q.notin ht (.inr (.inr (.inr a)))
    have hd : swD M' = true := by rw [h4]; simp [a, e]
    have h9 : (stepT A t).s t = 4 := by rw [stepT_3q a e e0]; exact upd_same
    refine ⟨M', _, Q ++ [t], h1, mk hI M' h2 (fun q hm => by
      rcases List.mem_append.1 hm with hm | hm
      · exact h.nq q hm
      · have : q = t := by simpa using hm
        rw [this]; exact htk), h3, hsx, by rw [hd]; simp, ?_, fun x => by rw [h9] at x; unfold isOut at x; omega, fun d c hr => h.q.near3q ht hr a e e0⟩
    rw [if_neg (by rw [h9]; decide)]
    cases hQ2 : Q with
    | nil => exact absurd hQ2 hQ
    | cons b r =>
      show hadQ (stepT A t) dn (b :: (r ++ [t])) = hadQ A dn (b :: r)
      simp only [hadQ_nil, hadQ_cons]
      rw [(hsx b (hne hQ2 hq)).1]
  · obtain ⟨u, hu, hu4, hx, hI⟩ := h.q.take4 ht a
    obtain ⟨M', h1, h2, h3, h4⟩ := take_view h.v ht (.inr (.inr (.inr (.inr (.inr ⟨a, u, hu4, hx⟩))))) r
    have hq : t ∈ Q := Classical.byContradiction fun hq => by have := h.q.out_s ht hq; omega
    have hd : swD M' = false := by rw [h4, a]; simp
    have h9 : (stepT A t).s t = 5 := by rw [stepT_4 a hx hu4]; exact upd_same
    refine ⟨M', _, Q, h1, mk hI M' h2 h.nq, h3, hsx, by rw [hd]; rfl, ?_, fun x => by rw [h9] at x; unfold isOut at x; omega, fun d c hr => h.q.near4 ht hr a⟩
    rw [if_neg (by rw [h9]; decide)]
    refine keep _ hsx fun b r eb => .inl fun e => ?_
    have hb := h.q.qq
    rw [eb, e] at hb
    rcases hb.1 with ⟨z, _⟩ | z | z | ⟨z, _⟩ | ⟨z, _⟩ <;> omega
  · obtain ⟨⟨r', hQ⟩, hI⟩ := h.q.take5 ht a e
    obtain ⟨M', h1, h2, h3, h4⟩ := take_view h.v ht (.inr (.inr (.inr (.inr (.inl a))))) r
    have hd : swD M' = false := by rw [h4, a]; simp
    have h9 : (stepT A t).s t = 9 := by rw [stepT_5 a e]; exact upd_same
    refine ⟨M', _, Q, h1, mk hI M' h2 h.nq, h3, hsx, by rw [hd]; rfl, ?_, fun _ => h9, fun d c hr => h.q.near5 ht hr a e⟩
    rw [if_pos h9, hQ]
    simp only [hadQ_nil, hadQ_cons]
    rw [if_neg (by rw [h9]; decide), if_pos a]
  · obtain ⟨M', h1, h2, h3, h4⟩ := take_view h.v ht (.inr (.inr (.inr (.inr (.inl a))))) r
    have hd : swD M' = false := by rw [h4, a]; simp
    have hA : stepT A t = A := stepT_5w a e
    have h9 : (stepT A t).s t = 5 := by rw [hA]; exact a
    refine ⟨M', _, Q, h1, mk (by rw [hA]; exact h.q) M' h2 h.nq, h3, hsx, by rw [hd]; rfl, ?_, fun x => by rw [h9] at x; unfold isOut at x; omega, fun d c hr => h.q.near5w ht hr a e⟩
    rw [if_neg (by rw [h9]; decide), hA]
theorem PyS.drop {k : Nat} {M : MemS} {n : Nat → Nat} {dn Q : List Nat} {A : QA} {t : Nat} (h : PyS k M n dn Q A) (ht : t < 4) (hs : isOut (A.s t)) (r : Bool) :
    ∃ M' A' Q' dn' n', mDrop M t 0 (A.s t) r (A.x t) = (M', ⟨t, ((0 : Nat) : Int), A'.s t, r, A'.x t⟩) ∧ PyS k M' n' dn' Q' A' ∧ M'.st = wrap64 (M.st + 1) ∧ (∀ q, q ≠ t → A'.s q = A.s q ∧ A'.x q = A.x q) ∧
      dn' ++ Q' = dn ++ Q ∧ hadQ A' dn' Q' = hadQ A dn Q ∧ (n' = if A'.s t = 0 then nput n t else n) ∧ (A'.s t = 0 ∨ (isOut (A'.s t) ∧ ¬ A'.s t = 9)) ∧ (∀ d c, RC A n k d c Q → Near n n' k d c t A' Q') := by
  have hsx : (∀ q, q ≠ t → (stepD A t).s q = A.s q ∧ (stepD A t).x q = A.x q) := fun q e => by
    unfold stepD
    repeat' split
    all_goals first | exact ⟨rfl, rfl⟩ | exact ⟨upd_ne e, rfl⟩ | exact ⟨rfl, upd_ne e⟩ | exact ⟨upd_ne e, upd_ne e⟩
  obtain ⟨r0, rfl⟩ := h.sz t ht hs
  have hq0 : hadQ A dn (t :: r0) = dn ++ [t] := by simp only [hadQ_nil, hadQ_cons]; rw [if_neg (by unfold isOut at hs; omega)]
  have stay : ∀ {s' : Int}, QI (stepD A t) (t :: r0) → (stepD A t).s t = s' → s' = 7 ∨ s' = 8 ∨ s' = 6 → (∀ d c, RC A n k d c (t :: r0) → Near n n k d c t (stepD A t) (t :: r0)) → (∃ M', mDrop M t 0 (A.s t) r (A.x t) = (M', ⟨t, ((0 : Nat) : Int), (stepD A t).s t, r, (stepD A t).x t⟩) ∧ View M' (stepD A t) ∧ M'.st = wrap64 (M.st + 1)) →
      ∃ M' A' Q' dn' n', mDrop M t 0 (A.s t) r (A.x t) = (M', ⟨t, ((0 : Nat) : Int), A'.s t, r, A'.x t⟩) ∧ PyS k M' n' dn' Q' A' ∧ M'.st = wrap64 (M.st + 1) ∧ (∀ q, q ≠ t → A'.s q = A.s q ∧ A'.x q = A.x q) ∧
      dn' ++ Q' = dn ++ (t :: r0) ∧ hadQ A' dn' Q' = hadQ A dn (t :: r0) ∧ (n' = if A'.s t = 0 then nput n t else n) ∧ (A'.s t = 0 ∨ (isOut (A'.s t) ∧ ¬ A'.s t = 9)) ∧ (∀ d c, RC A n k d c (t :: r0) → Near n n' k d c t A' Q') := by
    rintro s' hI hs' hsv hN ⟨M', h1, h2, h3⟩
    refine ⟨M', _, _, dn, n, h1, PyS.mk' h2 hI h.nq h.nk h.cn, h3, hsx, rfl, ?_, by rw [hs', if_neg (by omega)], .inr ⟨by rw [hs']; unfold isOut; omega, by omega⟩, hN⟩
    rw [hq0]; simp only [hadQ_nil, hadQ_cons]; rw [if_neg (by rw [hs']; omega)]
  have ncn : (dn ++ [t]).length = nput n t 0 + nput n t 1 + nput n t 2 + nput n t 3 := by
    rw [List.length_append, h.cn]
    unfold nput
    match t, ht with
    | 0, _ => simp; omega
    | 1, _ => simp; omega
    | 2, _ => simp; omega
    | 3, _ => simp; omega
  have htk : n t < k := h.nq t (by simp)
  have nnk : ∀ j, j < 4 → nput n t j ≤ k := fun j hj => by
    unfold nput
    by_cases e : j = t
    · rw [if_pos e]; omega
    · rw [if_neg e]; exact h.nk j hj
  have hn := List.nodup_cons.1 h.q.nd
  unfold isOut at hs
  rcases hs with a | a | a | a
  · by_cases e : A.K t = 0
    · exact stay (h.q.drop9 a e) (by rw [stepD_9 a e]; exact upd_same) (.inl rfl) (fun d c hr => h.q.nearD hr (.inl a)) (drop_view h.v ht (.inl a) r)
    · exact stay (by rw [stepD_98 a e]; exact h.q.to8 e) (by rw [stepD_98 a e]; exact upd_same) (.inr (.inl rfl)) (fun d c hr => h.q.nearD hr (.inl a)) (drop_view h.v ht (.inl a) r)
  · by_cases e : A.T = idn t
    · obtain ⟨rfl, hI⟩ := h.q.drop70 a e
      obtain ⟨M', h1, h2, h3⟩ := drop_view h.v ht (.inr (.inr (.inl a))) r
      have h0 : (stepD A t).s t = 0 := by rw [stepD_70 a e]; exact upd_same
      refine ⟨M', _, [], dn ++ [t], nput n t, h1, PyS.mk' h2 hI (by simp) nnk ncn, h3, hsx, by simp, by rw [hq0]; rfl, by rw [if_pos h0], .inl h0, fun d c hr => h.q.near70 ht hr a e⟩
    · exact stay (h.q.drop76 a e).2 (by rw [stepD_76 a e]; exact upd_same) (.inr (.inr rfl)) (fun d c hr => h.q.nearD hr (.inr (.inr ⟨a, e⟩))) (drop_view h.v ht (.inr (.inr (.inl a))) r)
  · by_cases e : A.K t = 0
    · exact stay (by rw [stepD_6w a e]; exact h.q) (by rw [stepD_6w a e]; exact a) (.inr (.inr rfl)) (fun d c hr => h.q.nearD hr (.inr (.inl a))) (drop_view h.v ht (.inr (.inl a)) r)
    · exact stay (by rw [stepD_68 a e]; exact h.q.to8 e) (by rw [stepD_68 a e]; exact upd_same) (.inr (.inl rfl)) (fun d c hr => h.q.nearD hr (.inr (.inl a))) (drop_view h.v ht (.inr (.inl a)) r)
  · obtain ⟨q, r', rfl, hq4, hx, h5, hI⟩ := h.q.drop8 a
    obtain ⟨M', h1, h2, h3⟩ := drop_view h.v ht (.inr (.inr (.inr ⟨a, q, hq4, hx⟩))) r
    have h0 : (stepD A t).s t = 0 := by rw [stepD_8 a hx hq4]; exact upd_same
    have hqt : q ≠ t := fun e => hn.1 (by rw [e]; simp)
    refine ⟨M', _, q :: r', dn ++ [t], nput n t, h1, PyS.mk' h2 hI (fun z hz => ?_) nnk ncn, h3, hsx, by simp, ?_, by rw [if_pos h0], .inl h0, fun d c hr => h.q.near8 ht hr a⟩
    · have hzt : z ≠ t := fun e => hn.1 (e ▸ hz)
      unfold nput; rw [if_neg hzt]; exact h.nq z (List.mem_cons_of_mem _ hz)
    · rw [hq0]; simp only [hadQ_nil, hadQ_cons]; rw [if_pos (by rw [(hsx q hqt).1]; exact h5)]
/-- the bound: behind the picks each step of four in a row brings it nearer -/
def Due (A : QA) (n : Nat → Nat) (k : Nat) (Q : List Nat) (i j : Nat) : Prop :=
  ¬ NotYet n k ∨ ∃ d c, RC A n k d c Q ∧ 4 * (6 * lfQ n k - d) + (((c + 4 - i % 4) % 4 : Nat) : Int) ≤ 291 - j
theorem Due.start {A : QA} {n : Nat → Nat} {k : Nat} {M : MemS} {dn Q : List Nat} (h : PyS k M n dn Q A) (hk : k ≤ 3) (i : Nat) : Due A n k Q i 0 := by
  by_cases hy : NotYet n k
  · obtain ⟨d, c, hr⟩ := RC.start (A := A) hy Q
    have hb := RC.d_bd h.q h.nq hr
    refine .inr ⟨d, c, hr, ?_⟩
    have : lfQ n k ≤ 12 := by unfold lfQ; omega
    omega
  · exact .inl hy
theorem Due.step {A A' : QA} {n n' : Nat → Nat} {k i j : Nat} {Q Q' : List Nat} (h : Due A n k Q i j) (hy : NotYet n k) (hN : ∀ d c, RC A n k d c Q → Near n n' k d c (i % 4) A' Q') (hc4 : ∀ d c, RC A n k d c Q → c < 4) (hc4' : ∀ d c, RC A' n' k d c Q' → c < 4) : Due A' n' k Q' (i + 1) (j + 1) := by
  rcases h with h | ⟨d, c, hr, hb⟩
  · exact absurd hy h
  · have hc := hc4 d c hr
    rcases hN d c hr with h1 | ⟨d', c', hr', h2 | ⟨h2, rfl, h3⟩⟩
    · exact .inl h1
    · have hc' := hc4' d' c' hr'
      refine .inr ⟨d', c', hr', ?_⟩
      omega
    · refine .inr ⟨d', c', hr', ?_⟩
      omega
theorem Due.wait {A : QA} {n : Nat → Nat} {k i j : Nat} {Q : List Nat} {M : MemS} {dn : List Nat} (h : Due A n k Q i j) (hp : PyS k M n dn Q A) (hi : ¬ n (i % 4) < k) : Due A n k Q (i + 1) (j + 1) := by
  rcases h with h | ⟨d, c, hr, hb⟩
  · exact .inl h
  · have hc := RC.d_bd hp.q hp.nq hr
    have : c ≠ i % 4 := fun e => hi (e ▸ hc.2.2.2)
    refine .inr ⟨d, c, hr, ?_⟩
    omega
theorem Due.ended {A : QA} {n : Nat → Nat} {k i : Nat} {Q : List Nat} {M : MemS} {dn : List Nat} (h : Due A n k Q i 400) (hp : PyS k M n dn Q A) : Q = [] ∧ dn.length = 4 * k ∧ ∀ t, t < 4 → n t = k := by
  have hN : ¬ NotYet n k := by
    rcases h with h | ⟨d, c, hr, hb⟩
    · exact h
    · have hd := RC.d_bd hp.q hp.nq hr
      have h0 := hp.nk 0 (by decide); have h1 := hp.nk 1 (by decide); have h2 := hp.nk 2 (by decide); have h3 := hp.nk 3 (by decide)
      have : 0 ≤ lfQ n k := by unfold lfQ; omega
      omega
  have hn : ∀ t, t < 4 → n t = k := fun t ht => by
    have := hp.nk t ht
    by_cases e : n t < k
    · exact absurd ⟨t, ht, e⟩ hN
    · omega
  refine ⟨?_, ?_, hn⟩
  · cases Q with
    | nil => rfl
    | cons a r => have := hp.nq a (by simp); have := hn a (hp.q.lt a (by simp)); omega
  · rw [hp.cn, hn 0 (by decide), hn 1 (by decide), hn 2 (by decide), hn 3 (by decide)]; omega
theorem PyS.start (k : Nat) (M : MemS) (hl : M.L.length = 48) (hz : ∀ i, M.word i = 0) : PyS k M (fun _ => 0) [] [] ⟨0, fun _ => 0, fun _ => 0, fun _ => 0, fun _ => 0⟩ :=
  PyS.mk' ⟨hl, (hz _).symm, fun _ _ => (hz _).symm, fun _ _ => (hz _).symm⟩ QI.start (by simp) (fun _ _ => Nat.zero_le _) rfl
end Go.Proofs.Ytchgfdfdkcijnaa
