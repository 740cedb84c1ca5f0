/- Four hands that read or write come and go: what a step computes, and that it comes to its end (no program in sight). -/
import Derived.Test.YtchgfdfdkcijnaaRwI
import Derived.Test.YtchgfdfdkcijnaaPlayS
namespace Go.Proofs.Ytchgfdfdkcijnaa
open Go.RowKit
def cH0 (f : Nat → HandS) (t : Nat) (read : Bool) : HandS := if (f t).s = 0 then ⟨t, 0, 0, read, 0⟩ else f t
def cOut (f : Nat → HandS) (o : Nat → Bool) (t : Nat) (read leave : Bool) : Bool := o t || (decide ((cH0 f t read).s = 9) && leave)
def cRes (M : MemS) (f : Nat → HandS) (o : Nat → Bool) (t : Nat) (read leave : Bool) : MemS × HandS := if cOut f o t read leave then wDropI M (cH0 f t read) else wTakeI M (cH0 f t read)
def cO (M : MemS) (f : Nat → HandS) (o : Nat → Bool) (t : Nat) (read leave : Bool) : Nat → Bool := bput o t (cOut f o t read leave && !decide ((cRes M f o t read leave).2.s = 0))
def cN (M : MemS) (f : Nat → HandS) (o : Nat → Bool) (c : Nat → Nat) (t : Nat) (read leave : Bool) : Nat → Nat := if cOut f o t read leave && decide ((cRes M f o t read leave).2.s = 0) then nput c t else c
/-- who is on its way out: writers behind their first step -/
def OI (f : Nat → HandS) (o : Nat → Bool) : Prop := ∀ t, t < 4 → (o t = true ↔ (f t).r = false ∧ ((f t).s = 6 ∨ (f t).s = 7 ∨ (f t).s = 8))
theorem OI.so {f : Nat → HandS} {o : Nat → Bool} (h : OI f o) {t : Nat} (ht : t < 4) (hs : (f t).s = 0) : o t = false := by
  cases e : o t with
  | false => rfl
  | true => have := (h t ht).1 e; omega
theorem OI.put {f : Nat → HandS} {o : Nat → Bool} (h : OI f o) {t : Nat} {x : HandS} {b : Bool} (hb : b = true ↔ x.r = false ∧ (x.s = 6 ∨ x.s = 7 ∨ x.s = 8)) : OI (hput f t x) (bput o t b) := fun j hj => by
  by_cases e : j = t
  · subst e; rw [hput_same, bput_same]; exact hb
  · rw [hput_ne e, bput_ne e]; exact h j hj
section
variable {k : Nat} {M : MemS} {n : Nat → Nat} {dn Q : List Nat} {A : QA} {f : Nat → HandS} {o : Nat → Bool} {c : Nat → Nat} {t : Nat}
theorem RwS.h0 (h : RwS k M n dn Q A f) (ht : t < 4) (read : Bool) : ∃ A', cH0 f t read = ⟨t, 0, (cH0 f t read).s, (cH0 f t read).r, A'.x t⟩ ∧ (cH0 f t read).s = (f t).s ∧ ((f t).s ≠ 0 → (cH0 f t read).r = (f t).r) ∧ RwS k M n dn Q A' (hput f t (cH0 f t read)) ∧ r9H (cH0 f t read) = r9H (f t) ∧ ∀ P c, PC k M n Q A f P c → PC k M n Q A' (hput f t (cH0 f t read)) P c := by
  by_cases e : (f t).s = 0
  · have hc : cH0 f t read = ⟨t, 0, 0, read, 0⟩ := if_pos e
    obtain ⟨A', hx, h1, h2, h3⟩ := h.fresh ht e read
    rw [hc]
    rw [hput_same] at h2
    exact ⟨A', by rw [hx], e.symm, fun e2 => absurd e e2, h1, h2, h3⟩
  · have hc : cH0 f t read = f t := if_neg e
    rw [hc, hput_id rfl]
    exact ⟨A, (h.hd t ht).2.2 e, rfl, fun _ => rfl, h, rfl, fun _ _ h => h⟩
/-- a step of one: all that stays so -/
theorem RwS.step (h : RwS k M n dn Q A f) (ho : OI f o) (ht : t < 4) (read leave : Bool) (hn : (0 ≤ (f t).s ∧ (f t).s ≤ 5) → n t < k) (hl : (f t).s = 9 → leave = true) :
    ∃ n' dn' Q' A', RwS k (cRes M f o t read leave).1 n' dn' Q' A' (hput f t (cRes M f o t read leave).2) ∧ OI (hput f t (cRes M f o t read leave).2) (cO M f o t read leave) ∧ (∀ q, q ≠ t → n' q = n q) ∧ n' t + r9H (f t) + c t = n t + r9H (cRes M f o t read leave).2 + cN M f o c t read leave t ∧ (cRes M f o t read leave).2.r = (cH0 f t read).r ∧
      ∀ P c, PC k M n Q A f P c → PNear k (cRes M f o t read leave).1 n' Q' A' (hput f t (cRes M f o t read leave).2) P c t := by
  obtain ⟨A0, hf0, hs0, hr0, h1, h9, hpc⟩ := h.h0 ht read
  obtain ⟨s, hs⟩ : ∃ z, (cH0 f t read).s = z := ⟨_, rfl⟩
  obtain ⟨r, hr⟩ : ∃ z, (cH0 f t read).r = z := ⟨_, rfl⟩
  obtain ⟨x, hx⟩ : ∃ z, A0.x t = z := ⟨_, rfl⟩
  rw [hs, hr, hx] at hf0
  rw [hs] at hs0
  rw [hr] at hr0
  have hot : o t = true ↔ r = false ∧ (s = 6 ∨ s = 7 ∨ s = 8) := by
    have hh := ho t ht
    rw [← hs0] at hh
    by_cases e : s = 0
    · rw [hh]; constructor
      · intro z; omega
      · intro z; omega
    · rw [hh, hr0 (by omega)]
  have hoi : ∀ {b : Bool} {y : HandS}, (b = true ↔ y.r = false ∧ (y.s = 6 ∨ y.s = 7 ∨ y.s = 8)) → OI (hput f t y) (bput o t b) := fun hb => ho.put hb
  rw [hf0] at h1 h9 hpc
  have hf1 : hput f t ⟨t, 0, s, r, x⟩ t = ⟨t, 0, s, r, x⟩ := hput_same
  cases hc : cOut f o t read leave with
  | true =>
    have hst : s = 9 ∨ (r = false ∧ (s = 6 ∨ s = 7 ∨ s = 8)) := by
      unfold cOut at hc
      rw [hs] at hc
      cases e : o t with
      | true => exact .inr (hot.1 e)
      | false => rw [e] at hc; simp at hc; exact .inl hc.1
    obtain ⟨M', s', x', n', dn', Q', A', hd, hS, _, hq, hcnt, hs', hP⟩ := h1.drop ht hf1 hx hst
    have hR : cRes M f o t read leave = (M', ⟨t, 0, s', r, x'⟩) := by unfold cRes; rw [hc, if_pos rfl, hf0, hd]
    have hO : cO M f o t read leave = bput o t (!decide (s' = 0)) := by unfold cO; rw [hc, hR]; rfl
    have hN : cN M f o c t read leave t = c t + (if s' = 0 then 1 else 0) := by
      unfold cN; rw [hc, hR]; dsimp only
      by_cases e : s' = 0
      · rw [e]; unfold nput; simp
      · simp [e]
    rw [hR, hO, hN]
    dsimp only
    rw [hput_twice] at hS hP
    rw [hput_same, h9] at hcnt
    refine ⟨n', dn', Q', A', hS, hoi ?_, hq, by omega, hr.symm, fun P c hp => hP P c (hpc P c hp)⟩
    rcases hs' with e | e
    · simp [e]
    · simp only [Bool.not_eq_true', decide_eq_false_iff_not]
      exact ⟨fun _ => e, fun _ => by omega⟩
  | false =>
    have hst : ¬ (r = false ∧ (s = 6 ∨ s = 7 ∨ s = 8)) ∧ s ≠ 9 := by
      unfold cOut at hc
      rw [hs] at hc
      simp at hc
      refine ⟨fun e => ?_, fun e => ?_⟩
      · have := hot.2 e; rw [this] at hc; simp at hc
      · have h1 := hc.2 e; have h2 := hl (hs0 ▸ e); rw [h1] at h2; cases h2
    obtain ⟨M', s', x', n', dn', Q', A', hd, hS, _, hq, hcnt, hs', hP⟩ := h1.take ht hf1 hx hst.2 hst.1 (fun e => hn (hs0 ▸ e))
    have hR : cRes M f o t read leave = (M', ⟨t, 0, s', r, x'⟩) := by unfold cRes; rw [hc, if_neg (by simp), hf0, hd]
    have hO : cO M f o t read leave = bput o t false := by unfold cO; rw [hc]; rfl
    have hN : cN M f o c t read leave t = c t := by unfold cN; rw [hc]; rfl
    rw [hR, hO, hN]
    dsimp only
    rw [hput_twice] at hS hP
    rw [hput_same, h9] at hcnt
    refine ⟨n', dn', Q', A', hS, hoi ?_, hq, by omega, hr.symm, fun P c hp => hP P c (hpc P c hp)⟩
    exact ⟨(fun e => by cases e), fun e => absurd e hs'⟩
/-- one that holds it, and would not leave -/
theorem RwS.stay (h : RwS k M n dn Q A f) (ho : OI f o) (ht : t < 4) (read : Bool) (hs : (f t).s = 9) : cRes M f o t read false = (M, f t) ∧ cO M f o t read false = o ∧ cN M f o c t read false = c := by
  have hc : cH0 f t read = f t := if_neg (by omega)
  have hof : o t = false := by
    cases e : o t with
    | false => rfl
    | true => have := (ho t ht).1 e; omega
  have hco : cOut f o t read false = false := by unfold cOut; rw [hof]; simp
  have hf := (h.hd t ht).2.2 (by omega)
  rw [hs] at hf
  have hR : cRes M f o t read false = (M, f t) := by
    unfold cRes
    rw [hco, if_neg (by simp), hc, hf]
    rw [show wTakeI M ⟨t, 0, 9, (f t).r, A.x t⟩ = wTake M t 0 9 (f t).r (A.x t) from wTakeI_nat ht (l := 0) (by decide) 9 _ _]
    unfold wTake
    rw [if_neg (by decide), if_neg (by decide), if_neg (by omega)]; rfl
  refine ⟨hR, ?_, by unfold cN; rw [hco]; rfl⟩
  unfold cO
  rw [hco]
  funext j
  unfold bput
  by_cases e : j = t
  · rw [if_pos e, e, hof]; rfl
  · rw [if_neg e]
end
/-- whose turn it is next -/
def Dst (m i c : Nat) : Int := (((c + m - i % m) % m : Nat) : Int)
theorem dst_less {m i c c' : Nat} {P P' B j : Int} (hm : 1 ≤ m) (hm4 : m ≤ 4) (hc : c < m) (hc' : c' < m) (h : m * P + Dst m i c ≤ B - j) (hp : P' < P) : m * P' + Dst m (i + 1) c' ≤ B - (j + 1) := by
  unfold Dst at *
  have : m = 1 ∨ m = 2 ∨ m = 3 ∨ m = 4 := by omega
  rcases this with rfl | rfl | rfl | rfl <;> omega
theorem dst_same {m i c : Nat} {P B j : Int} (hm : 1 ≤ m) (hm4 : m ≤ 4) (hc : c < m) (h : m * P + Dst m i c ≤ B - j) (ht : i % m ≠ c) : m * P + Dst m (i + 1) c ≤ B - (j + 1) := by
  unfold Dst at *
  have : m = 1 ∨ m = 2 ∨ m = 3 ∨ m = 4 := by omega
  rcases this with rfl | rfl | rfl | rfl <;> omega
theorem dst_bd {m i c : Nat} (hm : 1 ≤ m) : 0 ≤ Dst m i c ∧ Dst m i c < m := by
  unfold Dst
  have := Nat.mod_lt (c + m - i % m) (show 0 < m by omega)
  omega
section
variable {k : Nat} {M M' : MemS} {n n' : Nat → Nat} {dn dn' Q Q' : List Nat} {A A' : QA} {f f' : Nat → HandS} {t : Nat}
theorem PC.c4 (h : RwS k M n dn Q A f) {P : Int} {c : Nat} (hp : PC k M n Q A f P c) : c < 4 ∧ 1 ≤ P ∧ (r9N f : Nat) + 2 ≤ P ∧ (n c < k ∨ r9H (f c) = 1) := by
  obtain ⟨d, c0, hr, rfl, hc⟩ := hp
  have hb := RC.d_bd h.py.q h.py.nq hr
  have hlf := RC.lf h.py.q h.py.nq h.py.nk hr
  have hx := xC_bd f c0
  refine ⟨?_, by omega, by omega, ?_⟩
  · rcases hc with ⟨_, rfl⟩ | ⟨_, e, _⟩
    · exact hb.2.2.1
    · exact e
  · rcases hc with ⟨_, rfl⟩ | ⟨_, _, e⟩
    · exact .inl hb.2.2.2
    · exact .inr e
theorem sum4_lf {g : Nat → Nat} (h : ∀ j, j < 4 → n j ≤ k) (h2 : ∀ j, j < 4 → g j ≤ n j) : lfQ n k + (sum4 g : Nat) ≤ 4 * k ∧ 0 ≤ lfQ n k := by
  have a0 := h 0 (by decide); have a1 := h 1 (by decide); have a2 := h 2 (by decide); have a3 := h 3 (by decide)
  have b0 := h2 0 (by decide); have b1 := h2 1 (by decide); have b2 := h2 2 (by decide); have b3 := h2 3 (by decide)
  unfold lfQ sum4
  omega
end
/-- RwEnds: behind the picks -/
def DueE (M : MemS) (n : Nat → Nat) (Q : List Nat) (A : QA) (f : Nat → HandS) (i j : Nat) : Prop :=
  (¬ NotYet n 2 ∧ r9N f = 0) ∨ ∃ P c, ((NotYet n 2 ∧ PC 2 M n Q A f P c) ∨ (¬ NotYet n 2 ∧ c < 4 ∧ r9H (f c) = 1 ∧ P = (r9N f : Nat))) ∧ ((4 : Nat) : Int) * P + Dst 4 i c ≤ 391 - j
section
variable {M M' : MemS} {n n' c c' : Nat → Nat} {dn dn' Q Q' : List Nat} {A A' : QA} {f f' : Nat → HandS} {t i j : Nat}
theorem r9_ex {f : Nat → HandS} (h : r9N f ≠ 0) : ∃ c, c < 4 ∧ r9H (f c) = 1 := by
  obtain ⟨c, hc, h1⟩ := sum4_pos (g := fun t => r9H (f t)) (by unfold r9N at h; omega)
  (try dsimp only at h1)
  refine ⟨c, hc, ?_⟩
  have := r9H_pos h1
  unfold r9H; rw [if_pos this]
theorem r9N_le (f : Nat → HandS) : r9N f ≤ 4 := by
  have : ∀ j, r9H (f j) ≤ 1 := fun j => by unfold r9H; split <;> omega
  have a0 := this 0; have a1 := this 1; have a2 := this 2; have a3 := this 3
  rw [r9N_eq]; omega
theorem DueE.start (h : RwS 2 M n dn Q A f) (hN : ∀ j, j < 4 → n j = c j + r9H (f j)) (i : Nat) : DueE M n Q A f i 0 := by
  by_cases hy : NotYet n 2
  · obtain ⟨d, c0, hr⟩ := RC.start (A := A) hy Q
    obtain ⟨c1, hp⟩ := h.pc_of hr
    have hb := RC.d_bd h.py.q h.py.nq hr
    have hx := xC_bd f c0
    have hs := sum4_lf (g := fun t => r9H (f t)) h.py.nk (fun j hj => by have := hN j hj; (try dsimp only); omega)
    have hd := dst_bd (m := 4) (i := i) (c := c1) (by decide)
    refine .inr ⟨_, c1, .inl ⟨hy, hp⟩, ?_⟩
    have he : sum4 (fun t => r9H (f t)) = r9N f := rfl
    rw [he] at hs
    omega
  · by_cases h0 : r9N f = 0
    · exact .inl ⟨hy, h0⟩
    · obtain ⟨c1, hc, h1⟩ := r9_ex h0
      have := r9N_le f
      have hd := dst_bd (m := 4) (i := i) (c := c1) (by decide)
      exact .inr ⟨_, c1, .inr ⟨hy, hc, h1, rfl⟩, by omega⟩
/-- a step -/
theorem DueE.step (hd : DueE M n Q A f i j) (h : RwS 2 M n dn Q A f) {x : HandS} (h' : RwS 2 M' n' dn' Q' A' (hput f t x)) (ht : t < 4) (hi : i % 4 = t) (hc2 : c t < 2) (hN : ∀ j, j < 4 → n j = c j + r9H (f j)) (hne : ∀ q, q ≠ t → n' q = n q) (hnt : n' t = n t ∨ (n' t = n t + 1 ∧ r9H (f t) = 0))
    (h9 : r9H (f t) = 1 → n' t = n t ∧ r9H x = 0) (hP : ∀ P c, PC 2 M n Q A f P c → PNear 2 M' n' Q' A' (hput f t x) P c t) : DueE M' n' Q' A' (hput f t x) (i + 1) (j + 1) := by
  have hrp := r9N_put (f := f) ht x
  have hx1 : r9H x ≤ 1 := by unfold r9H; split <;> omega
  have hf1 : r9H (f t) ≤ 1 := by unfold r9H; split <;> omega
  have phase2 : ∀ {P : Int} {c : Nat}, ¬ NotYet n' 2 → c < 4 → (r9N (hput f t x) : Nat) < P → ((4 : Nat) : Int) * P + Dst 4 i c ≤ 391 - j → DueE M' n' Q' A' (hput f t x) (i + 1) (j + 1) := fun {P c} hy hc hlt hb => by
    by_cases h0 : r9N (hput f t x) = 0
    · exact .inl ⟨hy, h0⟩
    · obtain ⟨c1, hc1, h1⟩ := r9_ex h0
      exact .inr ⟨_, c1, .inr ⟨hy, hc1, h1, rfl⟩, by have := dst_less (by decide) (by decide) hc hc1 hb hlt; push_cast at this ⊢; omega⟩
  rcases hd with ⟨hy, h0⟩ | ⟨P, c1, ⟨hy, hp⟩ | ⟨hy, hc, h1, rfl⟩, hb⟩
  · -- all is done: it cannot be
    exfalso
    have hk := h.py.nk t ht
    have hn := hN t ht
    have : r9H (f t) = 0 := by have := sum4_le (fun t => r9H (f t)) ht; have e : sum4 (fun t => r9H (f t)) = r9N f := rfl; (try dsimp only at this); omega
    exact hy ⟨t, ht, by omega⟩
  · obtain ⟨hc4, hP1, hP2, _⟩ := PC.c4 h hp
    rcases hP P c1 hp with hy' | ⟨P', c', hp', hq⟩
    · exact phase2 hy' hc4 (by omega) hb
    · by_cases hy' : NotYet n' 2
      · have hc4' := (PC.c4 h' hp').1
        rcases hq with hq | ⟨rfl, rfl, hq⟩
        · exact .inr ⟨P', c', .inl ⟨hy', hp'⟩, by have := dst_less (by decide) (by decide) hc4 hc4' hb hq; push_cast at this ⊢; omega⟩
        · exact .inr ⟨P', c', .inl ⟨hy', hp'⟩, by have := dst_same (by decide) (by decide) hc4 hb (by rw [hi]; exact hq); push_cast at this ⊢; omega⟩
      · exact phase2 hy' hc4 (by omega) hb
  · have hn := hN t ht
    have hk : ¬ n t < 2 := fun e => hy ⟨t, ht, e⟩
    have h9t : r9H (f t) = 1 := by omega
    obtain ⟨e1, e2⟩ := h9 h9t
    have hy' : ¬ NotYet n' 2 := by
      rintro ⟨q, hq, hlt⟩
      by_cases e : q = t
      · subst e; omega
      · rw [hne q e] at hlt; exact hy ⟨q, hq, hlt⟩
    exact phase2 hy' hc (by omega) hb
/-- one that has had it twice -/
theorem DueE.wait (hd : DueE M n Q A f i j) (h : RwS 2 M n dn Q A f) (ht : t < 4) (hi : i % 4 = t) (hc2 : ¬ c t < 2) (hN : ∀ j, j < 4 → n j = c j + r9H (f j)) : DueE M n Q A f (i + 1) (j + 1) := by
  have hk := h.py.nk t ht
  have hn := hN t ht
  have h9 : r9H (f t) = 0 := by omega
  rcases hd with hd | ⟨P, c1, hd, hb⟩
  · exact .inl hd
  · have hc : c1 < 4 ∧ c1 ≠ t := by
      rcases hd with ⟨hy, hp⟩ | ⟨hy, hc, h1, _⟩
      · obtain ⟨a, _, _, b⟩ := PC.c4 h hp
        refine ⟨a, fun e => ?_⟩
        subst e; omega
      · exact ⟨hc, fun e => by subst e; omega⟩
    exact .inr ⟨P, c1, hd, by have := dst_same (by decide) (by decide) hc.1 hb (by rw [hi]; exact fun e => hc.2 e.symm); push_cast at this ⊢; omega⟩
theorem DueE.ended (hd : DueE M n Q A f i 400) (h : RwS 2 M n dn Q A f) (hN : ∀ j, j < 4 → n j = c j + r9H (f j)) : (∀ j, j < 4 → c j = 2) ∧ M.word (rdA 0) = 0 ∧ M.word (tlA 0) = 0 := by
  have hdone : ¬ NotYet n 2 ∧ r9N f = 0 := by
    rcases hd with hd | ⟨P, c1, hd, hb⟩
    · exact hd
    · exfalso
      have hdd := dst_bd (m := 4) (i := i) (c := c1) (by decide)
      rcases hd with ⟨hy, hp⟩ | ⟨hy, hc, h1, rfl⟩
      · have := (PC.c4 h hp).2.1; omega
      · omega
  have hn : ∀ j, j < 4 → n j = 2 := fun j hj => by
    have := h.py.nk j hj
    by_cases e : n j < 2
    · exact absurd ⟨j, hj, e⟩ hdone.1
    · omega
  have h9 : ∀ j, j < 4 → r9H (f j) = 0 := fun j hj => by
    have := sum4_le (fun t => r9H (f t)) hj
    have e : sum4 (fun t => r9H (f t)) = r9N f := rfl
    (try dsimp only at this); omega
  have hQ : Q = [] := by
    cases Q with
    | nil => rfl
    | cons a r => have := h.py.nq a (by simp); have := hn a (h.py.q.lt a (by simp)); omega
  have hc0 : ∀ j, j < 4 → ctH (f j) = 0 := fun j hj => by
    cases e : ctH (f j) with
    | zero => rfl
    | succ m =>
      exfalso
      obtain ⟨hr, hs⟩ := ctH_pos (h := f j) (by omega)
      rcases hs with hs | hs
      · have := h9 j hj; unfold r9H at this; rw [if_pos ⟨hr, hs⟩] at this; omega
      · obtain ⟨q, hq⟩ := h.head hj (.inr (.inl hs)); rw [hQ] at hq; cases hq
  refine ⟨fun j hj => by have := hN j hj; have := hn j hj; have := h9 j hj; omega, ?_, ?_⟩
  · rw [h.ct]
    have : ctN f = 0 := by
      have a0 := hc0 0 (by decide); have a1 := hc0 1 (by decide); have a2 := hc0 2 (by decide); have a3 := hc0 3 (by decide)
      rw [ctN_eq]; omega
    rw [this]; rfl
  · have h1 := h.py.v.T
    have h2 := h.py.q.tl
    rw [hQ] at h2
    exact h1.symm.trans h2
end
/-- RwTogether: behind the picks -/
def DueT (m : Nat) (M : MemS) (n : Nat → Nat) (Q : List Nat) (A : QA) (f : Nat → HandS) (i j : Nat) : Prop :=
  ¬ NotYet n 1 ∨ ∃ P c, PC 1 M n Q A f P c ∧ c < m ∧ (m : Int) * P + Dst m i c ≤ 199 - j
/-- readers alone, m of them -/
structure RdS (m : Nat) (M : MemS) (n : Nat → Nat) (dn Q : List Nat) (A : QA) (f : Nat → HandS) (o : Nat → Bool) : Prop where
  s : RwS 1 M n dn Q A f
  o : OI f o
  n0 : ∀ j, j < m → n j = r9H (f j)
  n1 : ∀ j, m ≤ j → j < 4 → n j = 1 ∧ f j = hand0
  rd : ∀ j, j < m → (f j).s ≠ 0 → (f j).r = true
section
variable {m : Nat} {M M' : MemS} {n n' : Nat → Nat} {dn dn' Q Q' : List Nat} {A A' : QA} {f f' : Nat → HandS} {o : Nat → Bool} {t i j : Nat}
theorem RdS.pc (h : RdS m M n dn Q A f o) {P : Int} {c : Nat} (hp : PC 1 M n Q A f P c) : c < m ∧ n c < 1 := by
  obtain ⟨d, c0, hr, rfl, hc⟩ := hp
  have hb := RC.d_bd h.s.py.q h.s.py.nq hr
  have hlt : c0 < m := by
    by_cases e : c0 < m
    · exact e
    · have := (h.n1 c0 (by omega) hb.2.2.1).1; omega
  rcases hc with ⟨_, rfl⟩ | ⟨b, _, _⟩
  · exact ⟨hlt, hb.2.2.2⟩
  · have := h.rd c0 hlt (by rw [b.1]; decide)
    rw [b.2.1] at this; cases this
theorem DueT.start (h : RdS m M n dn Q A f o) (hm : 1 ≤ m) (hm4 : m ≤ 4) (i : Nat) : DueT m M n Q A f i 0 := by
  by_cases hy : NotYet n 1
  · obtain ⟨d, c0, hr⟩ := RC.start (A := A) hy Q
    obtain ⟨c1, hp⟩ := h.s.pc_of hr
    have hb := RC.d_bd h.s.py.q h.s.py.nq hr
    have hx := xC_bd f c0
    have hcm := (h.pc hp).1
    have hd := dst_bd (m := m) (i := i) (c := c1) hm
    refine .inr ⟨_, c1, hp, hcm, ?_⟩
    have hg : ∀ j, j < 4 → r9H (f j) ≤ n j := fun j hj => by
      by_cases e : j < m
      · rw [h.n0 j e]; exact Nat.le_refl _
      · rw [(h.n1 j (by omega) hj).1]; unfold r9H; split <;> omega
    have h9le : ∀ j, r9H (f j) ≤ 1 := fun j => by unfold r9H; split <;> omega
    have hlf : 12 * lfQ n 1 + (r9N f : Nat) ≤ 12 * m := by
      have g0 := hg 0 (by decide); have g1 := hg 1 (by decide); have g2 := hg 2 (by decide); have g3 := hg 3 (by decide)
      have q0 := h9le 0; have q1 := h9le 1; have q2 := h9le 2; have q3 := h9le 3
      have hh : ∀ j, m ≤ j → j < 4 → r9H (f j) = 0 := fun j a b => by rw [(h.n1 j a b).2]; decide
      unfold lfQ; rw [r9N_eq]
      have : m = 1 ∨ m = 2 ∨ m = 3 ∨ m = 4 := by omega
      rcases this with rfl | rfl | rfl | rfl
      · have a := (h.n1 1 (by decide) (by decide)).1; have b := (h.n1 2 (by decide) (by decide)).1; have c := (h.n1 3 (by decide) (by decide)).1
        have a' := hh 1 (by decide) (by decide); have b' := hh 2 (by decide) (by decide); have c' := hh 3 (by decide) (by decide)
        omega
      · have b := (h.n1 2 (by decide) (by decide)).1; have c := (h.n1 3 (by decide) (by decide)).1
        have b' := hh 2 (by decide) (by decide); have c' := hh 3 (by decide) (by decide)
        omega
      · have c := (h.n1 3 (by decide) (by decide)).1
        have c' := hh 3 (by decide) (by decide)
        omega
      · omega
    have : m = 1 ∨ m = 2 ∨ m = 3 ∨ m = 4 := by omega
    rcases this with rfl | rfl | rfl | rfl <;> omega
  · exact .inl hy
theorem DueT.step (hd : DueT m M n Q A f i j) (h : RdS m M n dn Q A f o) {o' : Nat → Bool} (h' : RdS m M' n' dn' Q' A' f' o') (hm : 1 ≤ m) (hm4 : m ≤ 4) (hi : i % m = t) (hne : ∀ q, n q ≤ n' q)
    (hP : ∀ P c, PC 1 M n Q A f P c → PNear 1 M' n' Q' A' f' P c t) : DueT m M' n' Q' A' f' (i + 1) (j + 1) := by
  rcases hd with hd | ⟨P, c1, hp, hc, hb⟩
  · exact .inl (fun ⟨q, hq, hlt⟩ => hd ⟨q, hq, by have := hne q; omega⟩)
  · rcases hP P c1 hp with hy | ⟨P', c', hp', hq⟩
    · exact .inl hy
    · have hc' := (h'.pc hp').1
      rcases hq with hq | ⟨rfl, rfl, hq⟩
      · exact .inr ⟨P', c', hp', hc', by have := dst_less hm hm4 hc hc' hb hq; push_cast at this ⊢; omega⟩
      · exact .inr ⟨P', c', hp', hc', by have := dst_same hm hm4 hc hb (by rw [hi]; exact hq); push_cast at this ⊢; omega⟩
theorem DueT.wait (hd : DueT m M n Q A f i j) (h : RdS m M n dn Q A f o) (hm : 1 ≤ m) (hm4 : m ≤ 4) (hi : i % m = t) (hs : r9H (f t) = 1) : DueT m M n Q A f (i + 1) (j + 1) := by
  rcases hd with hd | ⟨P, c1, hp, hc, hb⟩
  · exact .inl hd
  · have hct := (h.pc hp).2
    have hn := h.n0 c1 hc
    refine .inr ⟨P, c1, hp, hc, by have := dst_same hm hm4 hc hb (by rw [hi]; exact fun e => by subst e; omega); push_cast at this ⊢; omega⟩
theorem DueT.ended (hd : DueT m M n Q A f i 200) (h : RdS m M n dn Q A f o) (hm : 1 ≤ m) : ∀ j, j < m → j < 4 → (f j).s = 9 ∧ (f j).r = true := by
  have hdone : ¬ NotYet n 1 := by
    rcases hd with hd | ⟨P, c1, hp, hc, hb⟩
    · exact hd
    · exfalso
      have hdd := dst_bd (m := m) (i := i) (c := c1) hm
      have h1 := (PC.c4 h.s hp).2.1
      have h2 : (0 : Int) ≤ (m : Int) * P := Int.mul_nonneg (by omega) (by omega)
      omega
  intro j hj hj4
  have h1 := h.n0 j hj
  have h2 : ¬ n j < 1 := fun e => hdone ⟨j, hj4, e⟩
  have := r9H_pos (h := f j) (by omega)
  exact ⟨this.2, this.1⟩
end
end Go.Proofs.Ytchgfdfdkcijnaa
