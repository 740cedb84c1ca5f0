/- A crowd: four hands, who is on its way out, how often each has had it: one block of 28 cells. -/
import Derived.Test.YtchgfdfdkcijnaaRwD
namespace Go.Proofs.Ytchgfdfdkcijnaa
open Go.RowKit
def CrowdAt (w : World) (C : Nat) (f : Nat → HandS) (o : Nat → Bool) (n : Nat → Nat) : Prop := ∃ (cs : Array Value) (T : TypeId), w.heap[C]? = some (.cells cs T (0, 0)) ∧ cs.size = 28 ∧
  (∀ t, t < 4 → cs[t * 5]? = some (.int .i64 (f t).t) ∧ cs[t * 5 + 1]? = some (.int .i64 (f t).l) ∧ cs[t * 5 + 2]? = some (.int .i64 (f t).s) ∧ cs[t * 5 + 3]? = some (.bool (f t).r) ∧ cs[t * 5 + 4]? = some (.int .i64 (f t).x)) ∧
  (∀ t, t < 4 → cs[20 + t]? = some (.bool (o t))) ∧ ∀ t, t < 4 → cs[24 + t]? = some (.int .i64 (n t : Nat))
section
variable {w w' : World} {C : Nat} {f : Nat → HandS} {o : Nat → Bool} {n : Nat → Nat} {S : Nat → Prop} {t : Nat}
theorem CrowdAt.keep (h : CrowdAt w C f o n) (k : Keeps S w w') (hC : ¬ S C) : CrowdAt w' C f o n := by
  obtain ⟨cs, T, h1, h2⟩ := h
  exact ⟨cs, T, k.blk h1 hC, h2⟩
theorem CrowdAt.hx (h : CrowdAt w C f o n) : HandsAt 4 w C f := by
  obtain ⟨cs, T, h1, h2, h3, _⟩ := h
  exact ⟨cs, T, h1, h3⟩
theorem CrowdAt.oc (h : CrowdAt w C f o n) (ht : t < 4) : w.cell? ⟨C, 20 + t, none⟩ = some (.bool (o t)) := by
  obtain ⟨cs, T, h1, h2, h3, h4, h5⟩ := h
  rw [blk_cell h1, h4 t ht]
theorem CrowdAt.nu (h : CrowdAt w C f o n) (ht : t < 4) : w.cell? ⟨C, 24 + t, none⟩ = some (.int .i64 (n t : Nat)) := by
  obtain ⟨cs, T, h1, h2, h3, h4, h5⟩ := h
  rw [blk_cell h1, h5 t ht]
theorem CrowdAt.free (h : CrowdAt w C f o n) (j : Nat) : w.frozen? ⟨C, j, none⟩ = false := by
  obtain ⟨cs, T, h1, h2⟩ := h
  exact blk_free h1 j
theorem CrowdAt.lt (h : CrowdAt w C f o n) : C < w.heap.size := by
  obtain ⟨cs, T, h1, h2⟩ := h
  exact blk_lt h1
theorem CrowdAt.setH (h : CrowdAt w C f o n) (ht : t < 4) (x : HandS) : CrowdAt (Proofs.Ytchgfdfdkcijnaa.setH w C t x) C (hput f t x) o n := by
  obtain ⟨cs, T, h1, h2, h3, h4, h5⟩ := h
  have hsz : t * 5 + 4 < cs.size := by omega
  refine ⟨_, T, blk_set (blk_set (blk_set (blk_set (blk_set h1 _ _) _ _) _ _) _ _) _ _, by simpa using h2, fun j hj => ?_, fun j hj => ?_, fun j hj => ?_⟩
  · simp only [get_set5 hsz]
    unfold hput
    by_cases e : j = t
    · subst e
      simp
    · rw [if_neg e, if_neg (by omega), if_neg (by omega), if_neg (by omega), if_neg (by omega), if_neg (by omega), if_neg (by omega), if_neg (by omega), if_neg (by omega), if_neg (by omega), if_neg (by omega), if_neg (by omega), if_neg (by omega), if_neg (by omega), if_neg (by omega), if_neg (by omega), if_neg (by omega), if_neg (by omega), if_neg (by omega), if_neg (by omega), if_neg (by omega), if_neg (by omega), if_neg (by omega), if_neg (by omega), if_neg (by omega), if_neg (by omega)]
      exact h3 j hj
  · simp only [get_set5 hsz]
    rw [if_neg (by omega), if_neg (by omega), if_neg (by omega), if_neg (by omega), if_neg (by omega)]
    exact h4 j hj
  · simp only [get_set5 hsz]
    rw [if_neg (by omega), if_neg (by omega), if_neg (by omega), if_neg (by omega), if_neg (by omega)]
    exact h5 j hj
theorem CrowdAt.setO (h : CrowdAt w C f o n) (ht : t < 4) (b : Bool) : CrowdAt (w.setCell ⟨C, 20 + t, none⟩ (.bool b)) C f (bput o t b) n := by
  obtain ⟨cs, T, h1, h2, h3, h4, h5⟩ := h
  refine ⟨_, T, blk_set h1 (20 + t) (.bool b), by simpa using h2, fun j hj => ?_, fun j hj => ?_, fun j hj => ?_⟩
  · simp only [Array.getElem?_setIfInBounds]
    rw [if_neg (by omega), if_neg (by omega), if_neg (by omega), if_neg (by omega), if_neg (by omega)]
    exact h3 j hj
  · unfold bput
    rw [Array.getElem?_setIfInBounds]
    by_cases e : j = t
    · subst e; rw [if_pos rfl, if_pos (by omega), if_pos rfl]
    · rw [if_neg (by omega), if_neg e]; exact h4 j hj
  · rw [Array.getElem?_setIfInBounds, if_neg (by omega)]; exact h5 j hj
theorem CrowdAt.setN (h : CrowdAt w C f o n) (ht : t < 4) : CrowdAt (w.setCell ⟨C, 24 + t, none⟩ (.int .i64 ((n t : Nat) + 1 : Int))) C f o (nput n t) := by
  obtain ⟨cs, T, h1, h2, h3, h4, h5⟩ := h
  refine ⟨_, T, blk_set h1 (24 + t) _, by simpa using h2, fun j hj => ?_, fun j hj => ?_, fun j hj => ?_⟩
  · simp only [Array.getElem?_setIfInBounds]
    rw [if_neg (by omega), if_neg (by omega), if_neg (by omega), if_neg (by omega), if_neg (by omega)]
    exact h3 j hj
  · rw [Array.getElem?_setIfInBounds, if_neg (by omega)]; exact h4 j hj
  · unfold nput
    rw [Array.getElem?_setIfInBounds]
    by_cases e : j = t
    · subst e; rw [if_pos rfl, if_pos (by omega), if_pos rfl]; rfl
    · rw [if_neg (by omega), if_neg e]; exact h5 j hj
theorem CrowdAt.congr {g : Nat → HandS} {p : Nat → Bool} {m : Nat → Nat} (h : CrowdAt w C f o n) (e : ∀ t, t < 4 → f t = g t) (e2 : ∀ t, t < 4 → o t = p t) (e3 : ∀ t, t < 4 → n t = m t) : CrowdAt w C g p m := by
  obtain ⟨cs, T, h1, h2, h3, h4, h5⟩ := h
  exact ⟨cs, T, h1, h2, fun t ht => by rw [← e t ht]; exact h3 t ht, fun t ht => by rw [← e2 t ht]; exact h4 t ht, fun t ht => by rw [← e3 t ht]; exact h5 t ht⟩
end
def crowd0 : Array Value := #[.int .i64 0, .int .i64 0, .int .i64 0, .bool false, .int .i64 0, .int .i64 0, .int .i64 0, .int .i64 0, .bool false, .int .i64 0, .int .i64 0, .int .i64 0, .int .i64 0, .bool false, .int .i64 0, .int .i64 0, .int .i64 0, .int .i64 0, .bool false, .int .i64 0, .bool false, .bool false, .bool false, .bool false, .int .i64 0, .int .i64 0, .int .i64 0, .int .i64 0]
theorem crowdAt_new (w : World) (T : TypeId) : CrowdAt (w.alloc (.cells crowd0 T)) w.heap.size (fun _ => hand0) (fun _ => false) (fun _ => 0) := by
  refine ⟨_, T, heap_alloc_new _ _, rfl, fun t ht => ?_, fun t ht => ?_, fun t ht => ?_⟩
  · match t, ht with
    | 0, _ => exact ⟨rfl, rfl, rfl, rfl, rfl⟩
    | 1, _ => exact ⟨rfl, rfl, rfl, rfl, rfl⟩
    | 2, _ => exact ⟨rfl, rfl, rfl, rfl, rfl⟩
    | 3, _ => exact ⟨rfl, rfl, rfl, rfl, rfl⟩
  · match t, ht with
    | 0, _ => rfl
    | 1, _ => rfl
    | 2, _ => rfl
    | 3, _ => rfl
  · match t, ht with
    | 0, _ => rfl
    | 1, _ => rfl
    | 2, _ => rfl
    | 3, _ => rfl
/-- how many write, how many read -/
def hwN (f : Nat → HandS) : Nat → Nat
  | 0 => 0
  | k + 1 => hwN f k + if (f k).s = 9 ∧ (f k).r = false then 1 else 0
def hrN (f : Nat → HandS) : Nat → Nat
  | 0 => 0
  | k + 1 => hrN f k + if (f k).s = 9 ∧ (f k).r = true then 1 else 0
theorem hN_le (f : Nat → HandS) : ∀ k, hwN f k ≤ k ∧ hrN f k ≤ k
  | 0 => ⟨Nat.le_refl _, Nat.le_refl _⟩
  | k + 1 => by
    have := hN_le f k
    unfold hwN hrN
    constructor <;> (split <;> omega)
/-- a writer that holds it is alone -/
theorem RwS.alone {k : Nat} {M : MemS} {n : Nat → Nat} {dn Q : List Nat} {A : QA} {f : Nat → HandS} (h : RwS k M n dn Q A f) : hwN f 4 ≤ 1 ∧ (hwN f 4 = 1 → hrN f 4 = 0) := by
  have key : ∀ j, j ≤ 4 → hwN f j ≤ 1 ∧ (hwN f j = 1 → ∃ i, i < j ∧ (f i).s = 9 ∧ (f i).r = false) := by
    intro j
    induction j with
    | zero => intro _; exact ⟨Nat.zero_le 1, fun h => absurd h (show ¬ (0 : Nat) = 1 by decide)⟩
    | succ j ih =>
      intro hj
      obtain ⟨h1, h2⟩ := ih (by omega)
      unfold hwN
      by_cases e : (f j).s = 9 ∧ (f j).r = false
      · rw [if_pos e]
        by_cases e1 : hwN f j = 1
        · obtain ⟨i, hi, hs⟩ := h2 e1
          have := h.head_one (t := i) (u := j) (by omega) (by omega) (.inr (.inr hs)) (.inr (.inr e))
          omega
        · exact ⟨by omega, fun _ => ⟨j, by omega, e⟩⟩
      · rw [if_neg e]
        exact ⟨by omega, fun h3 => by obtain ⟨i, hi, hs⟩ := h2 (by omega); exact ⟨i, by omega, hs⟩⟩
  refine ⟨(key 4 (by decide)).1, fun h1 => ?_⟩
  obtain ⟨i, hi, hs, hr⟩ := (key 4 (by decide)).2 h1
  have hw := h.al i hi hs hr
  have hc : ctN f = 0 := by have := h.ct; omega
  have hc0 : ∀ j, j < 4 → ¬ ((f j).s = 9 ∧ (f j).r = true) := fun j hj e => by
    have := sum4_le (fun t => ctH (f t)) hj
    have e2 : sum4 (fun t => ctH (f t)) = ctN f := rfl
    (try dsimp only at this)
    have e3 : ctH (f j) = 1 := by unfold ctH; rw [if_pos ⟨e.2, .inl e.1⟩]
    omega
  simp only [hrN]
  rw [if_neg (hc0 0 (by decide)), if_neg (hc0 1 (by decide)), if_neg (hc0 2 (by decide)), if_neg (hc0 3 (by decide))]
section
variable {k : Nat} {M M' : MemS} {n n' : Nat → Nat} {dn dn' Q Q' : List Nat} {A A' : QA} {f : Nat → HandS} {o : Nat → Bool} {c : Nat → Nat} {t m : Nat}
theorem cN_at (M : MemS) (f : Nat → HandS) (o : Nat → Bool) (c : Nat → Nat) (t : Nat) (read leave : Bool) : (cN M f o c t read leave t = c t) ∨ (cN M f o c t read leave t = c t + 1 ∧ (cRes M f o t read leave).2.s = 0) := by
  unfold cN
  by_cases e : (cOut f o t read leave && decide ((cRes M f o t read leave).2.s = 0)) = true
  · rw [if_pos e]
    refine .inr ⟨by unfold nput; rw [if_pos rfl], ?_⟩
    simp at e; exact e.2
  · rw [if_neg e]; exact .inl rfl
theorem cN_ne (M : MemS) (f : Nat → HandS) (o : Nat → Bool) (c : Nat → Nat) (t : Nat) (read leave : Bool) {j : Nat} (h : j ≠ t) : cN M f o c t read leave j = c j := by
  unfold cN
  split
  · unfold nput; rw [if_neg h]
  · rfl
theorem cN_le {i : Nat} (h : ∀ j, j < 4 → c j ≤ i) (M : MemS) (f : Nat → HandS) (o : Nat → Bool) (t : Nat) (read leave : Bool) : ∀ j, j < 4 → cN M f o c t read leave j ≤ i + 1 := fun j hj => by
  by_cases e : j = t
  · subst e
    have := h j hj
    rcases cN_at M f o c j read leave with a | ⟨a, _⟩ <;> omega
  · rw [cN_ne M f o c t read leave e]; have := h j hj; omega
theorem OI.so2 (h : OI f o) (ht : t < 4) : (f t).s = 0 ∨ (f t).s = 9 → o t = false := fun e => by
  cases e2 : o t with
  | false => rfl
  | true => have := (h t ht).1 e2; omega
/-- RwAlone -/
theorem RwS.go (h : RwS 1 M (fun _ => 0) [] Q A f) (ho : OI f o) (ht : t < 4) (read leave : Bool) : ∃ Q' A', RwS 1 (cRes M f o t read leave).1 (fun _ => 0) [] Q' A' (hput f t (cRes M f o t read leave).2) ∧ OI (hput f t (cRes M f o t read leave).2) (cO M f o t read leave) := by
  by_cases e : (f t).s = 9 ∧ leave = false
  · obtain ⟨h9, rfl⟩ := e
    obtain ⟨h1, h2, _⟩ := h.stay (c := fun _ => 0) ho ht read h9
    rw [h1, h2]
    dsimp only
    rw [hput_id rfl]
    exact ⟨Q, A, h, ho⟩
  · have hl : (f t).s = 9 → leave = true := fun e9 => by
      cases leave
      · exact absurd ⟨e9, rfl⟩ e
      · rfl
    obtain ⟨n', dn', Q', A', h1, h2, _⟩ := h.step (c := fun _ => 0) ho ht read leave (fun _ => Nat.one_pos) hl
    exact ⟨Q', A', ⟨PyS.mk' h1.py.v h1.py.q (fun _ _ => Nat.one_pos) (fun _ _ => Nat.zero_le _) rfl, h1.hd, h1.ct, h1.al⟩, h2⟩
theorem ct0 : ctN (fun _ => hand0) = 0 := by decide
theorem RwS.start (k : Nat) (M : MemS) (hl : M.L.length = 48) (hz : ∀ i, M.word i = 0) (n : Nat → Nat) (dn : List Nat) (nk : ∀ t, t < 4 → n t ≤ k) (cn : dn.length = n 0 + n 1 + n 2 + n 3) : RwS k M n dn [] ⟨0, fun _ => 0, fun _ => 0, fun _ => 0, fun _ => 0⟩ (fun _ => hand0) := by
  refine ⟨PyS.mk' ⟨hl, (hz _).symm, fun _ _ => (hz _).symm, fun _ _ => (hz _).symm⟩ QI.start (by simp) nk cn, fun t ht => ⟨.inl (show (0 : Int) ≤ 0 ∧ (0 : Int) ≤ 5 by decide), show (0 : Int) = phS 0 false by decide, fun e => absurd rfl e⟩, ?_, fun t ht e => absurd e (show ¬ (0 : Int) = 9 by decide)⟩
  rw [hz, ct0]; rfl
theorem OI.start : OI (fun _ => hand0) (fun _ => false) := fun t _ => ⟨fun e => absurd e (show ¬ false = true by decide), fun e => absurd e.2 (show ¬ ((0 : Int) = 6 ∨ (0 : Int) = 7 ∨ (0 : Int) = 8) by decide)⟩
/-- RwTogether -/
theorem RdS.start (M : MemS) (hl : M.L.length = 48) (hz : ∀ i, M.word i = 0) (hm : 1 ≤ m) (hm4 : m ≤ 4) : ∃ n dn Q A, RdS m M n dn Q A (fun _ => hand0) (fun _ => false) := by
  refine ⟨fun j => if j < m then 0 else 1, List.replicate (4 - m) 0, [], _, RwS.start 1 M hl hz _ _ (fun t _ => by split <;> omega) ?_, OI.start, fun j hj => ?_, fun j hj hj4 => ⟨?_, rfl⟩, fun j hj e => absurd rfl e⟩
  · rw [List.length_replicate]
    have : m = 1 ∨ m = 2 ∨ m = 3 ∨ m = 4 := by omega
    rcases this with rfl | rfl | rfl | rfl <;> rfl
  · (try dsimp only); rw [if_pos hj]; rfl
  · (try dsimp only); rw [if_neg (by omega)]
theorem RdS.step (h : RdS m M n dn Q A f o) (ht : t < m) (hm : 1 ≤ m) (hm4 : m ≤ 4) : ∃ n' dn' Q' A', RdS m (cRes M f o t true false).1 n' dn' Q' A' (hput f t (cRes M f o t true false).2) (cO M f o t true false) ∧
    ∀ i j, i % m = t → DueT m M n Q A f i j → DueT m (cRes M f o t true false).1 n' Q' A' (hput f t (cRes M f o t true false).2) (i + 1) (j + 1) := by
  have ht4 : t < 4 := by omega
  by_cases h9 : (f t).s = 9
  · obtain ⟨h1, h2, _⟩ := h.s.stay (c := fun _ => 0) h.o ht4 true h9
    rw [h1, h2]
    dsimp only
    rw [hput_id rfl]
    have hr : r9H (f t) = 1 := by unfold r9H; rw [if_pos ⟨h.rd t ht (by omega), h9⟩]
    exact ⟨n, dn, Q, A, h, fun i j hi hd => hd.wait h hm hm4 hi hr⟩
  · have h0 : r9H (f t) = 0 := by unfold r9H; rw [if_neg (fun e => h9 e.2)]
    have hnt := h.n0 t ht
    obtain ⟨n', dn', Q', A', h1, h2, h3, h4, h5, h6⟩ := h.s.step (c := fun _ => 0) h.o ht4 true false (fun _ => by omega) (fun e => absurd e h9)
    have hot : o t = false := by
      cases e : o t with
      | false => rfl
      | true =>
        have := (h.o t ht4).1 e
        have := h.rd t ht (by omega)
        simp_all
    have hco : cOut f o t true false = false := by unfold cOut; rw [hot]; simp
    have hcn : cN M f o (fun _ => 0) t true false t = 0 := by unfold cN; rw [hco]; rfl
    have hr : (cRes M f o t true false).2.r = true := by
      rw [h5]; unfold cH0
      by_cases e : (f t).s = 0
      · rw [if_pos e]
      · rw [if_neg e]; exact h.rd t ht e
    rw [hcn] at h4
    have hR : RdS m (cRes M f o t true false).1 n' dn' Q' A' (hput f t (cRes M f o t true false).2) (cO M f o t true false) := by
      refine ⟨h1, h2, fun j hj => ?_, fun j hj hj4 => ?_, fun j hj hs => ?_⟩
      · by_cases e : j = t
        · subst e; rw [hput_same]; omega
        · rw [hput_ne e, h3 j e]; exact h.n0 j hj
      · have e : j ≠ t := by omega
        rw [hput_ne e, h3 j e]; exact h.n1 j hj hj4
      · by_cases e : j = t
        · subst e; rw [hput_same]; exact hr
        · rw [hput_ne e] at hs ⊢; exact h.rd j hj hs
    refine ⟨n', dn', Q', A', hR, fun i j hi hd => hd.step h hR hm hm4 hi (fun q => ?_) h6⟩
    by_cases e : q = t
    · subst e; omega
    · rw [h3 q e]; exact Nat.le_refl _
theorem RdS.ended (h : RdS m M n dn Q A f o) (hm : 1 ≤ m) (hm4 : m ≤ 4) (hd : ∀ j, j < m → j < 4 → (f j).s = 9 ∧ (f j).r = true) : hwN f 4 = 0 ∧ hrN f 4 = m ∧ M.word (rdA 0) = (m : Nat) := by
  have hh : ∀ j, m ≤ j → j < 4 → (f j).s = 0 ∧ (f j).r = false := fun j a b => by rw [(h.n1 j a b).2]; exact ⟨rfl, rfl⟩
  have hct : ctN f = m ∧ hwN f 4 = 0 ∧ hrN f 4 = m := by
    rw [ctN_eq]
    simp only [hwN, hrN, ctH]
    have : m = 1 ∨ m = 2 ∨ m = 3 ∨ m = 4 := by omega
    rcases this with rfl | rfl | rfl | rfl
    · rw [(hd 0 (by decide) (by decide)).1, (hd 0 (by decide) (by decide)).2, (hh 1 (by decide) (by decide)).1, (hh 1 (by decide) (by decide)).2, (hh 2 (by decide) (by decide)).1, (hh 2 (by decide) (by decide)).2, (hh 3 (by decide) (by decide)).1, (hh 3 (by decide) (by decide)).2]; simp
    · rw [(hd 0 (by decide) (by decide)).1, (hd 0 (by decide) (by decide)).2, (hd 1 (by decide) (by decide)).1, (hd 1 (by decide) (by decide)).2, (hh 2 (by decide) (by decide)).1, (hh 2 (by decide) (by decide)).2, (hh 3 (by decide) (by decide)).1, (hh 3 (by decide) (by decide)).2]; simp
    · rw [(hd 0 (by decide) (by decide)).1, (hd 0 (by decide) (by decide)).2, (hd 1 (by decide) (by decide)).1, (hd 1 (by decide) (by decide)).2, (hd 2 (by decide) (by decide)).1, (hd 2 (by decide) (by decide)).2, (hh 3 (by decide) (by decide)).1, (hh 3 (by decide) (by decide)).2]; simp
    · rw [(hd 0 (by decide) (by decide)).1, (hd 0 (by decide) (by decide)).2, (hd 1 (by decide) (by decide)).1, (hd 1 (by decide) (by decide)).2, (hd 2 (by decide) (by decide)).1, (hd 2 (by decide) (by decide)).2, (hd 3 (by decide) (by decide)).1, (hd 3 (by decide) (by decide)).2]; simp
  exact ⟨hct.2.1, hct.2.2, by rw [h.s.ct, hct.1]⟩
/-- RwEnds -/
structure EnS (M : MemS) (n : Nat → Nat) (dn Q : List Nat) (A : QA) (f : Nat → HandS) (o : Nat → Bool) (c : Nat → Nat) : Prop where
  s : RwS 2 M n dn Q A f
  o : OI f o
  ni : ∀ j, j < 4 → n j = c j + r9H (f j)
theorem EnS.start (M : MemS) (hl : M.L.length = 48) (hz : ∀ i, M.word i = 0) : EnS M (fun _ => 0) [] [] ⟨0, fun _ => 0, fun _ => 0, fun _ => 0, fun _ => 0⟩ (fun _ => hand0) (fun _ => false) (fun _ => 0) :=
  ⟨RwS.start 2 M hl hz _ _ (fun _ _ => Nat.zero_le _) rfl, OI.start, fun _ _ => rfl⟩
theorem EnS.step (h : EnS M n dn Q A f o c) (ht : t < 4) (hc : c t < 2) (read : Bool) : ∃ n' dn' Q' A', EnS (cRes M f o t read true).1 n' dn' Q' A' (hput f t (cRes M f o t read true).2) (cO M f o t read true) (cN M f o c t read true) ∧
    ∀ i j, i % 4 = t → DueE M n Q A f i j → DueE (cRes M f o t read true).1 n' Q' A' (hput f t (cRes M f o t read true).2) (i + 1) (j + 1) := by
  have hni := h.ni t ht
  have hlow : (0 ≤ (f t).s ∧ (f t).s ≤ 5) → n t < 2 := fun e => by
    have : r9H (f t) = 0 := by unfold r9H; rw [if_neg (by omega)]
    omega
  obtain ⟨n', dn', Q', A', h1, h2, h3, h4, h5, h6⟩ := h.s.step (c := c) h.o ht read true hlow (fun _ => rfl)
  have hx1 : r9H (cRes M f o t read true).2 ≤ 1 := by unfold r9H; split <;> omega
  have hc1 := cN_at M f o c t read true
  have hx0 : (cRes M f o t read true).2.s = 0 → r9H (cRes M f o t read true).2 = 0 := fun e => by unfold r9H; rw [if_neg (by omega)]
  have h9 : r9H (f t) = 1 → n' t = n t ∧ r9H (cRes M f o t read true).2 = 0 := fun e => by
    obtain ⟨er, es⟩ := r9H_pos (h := f t) (by omega)
    have hh0 : cH0 f t read = f t := if_neg (by omega)
    have hco : cOut f o t read true = true := by unfold cOut; rw [hh0, es]; simp
    have hf := (h.s.hd t ht).2.2 (by omega)
    rw [es, er] at hf
    have hres : cRes M f o t read true = (M.add (rdA 0) (-1), ⟨t, 0, 0, true, A.x t⟩) := by
      unfold cRes
      rw [hco, if_pos rfl, hh0, hf]
      exact wDropI_nat ht (l := 0) (by decide) 9 true (A.x t)
    have hcn : cN M f o c t read true t = c t + 1 := by
      unfold cN; rw [hco, hres]; unfold nput; simp
    have hz := hx0 (by rw [hres])
    exact ⟨by omega, hz⟩
  refine ⟨n', dn', Q', A', ⟨h1, h2, fun j hj => ?_⟩, fun i j hi hd => hd.step h.s h1 ht hi hc h.ni h3 ?_ h9 h6⟩
  · by_cases e : j = t
    · subst e; rw [hput_same]; omega
    · rw [hput_ne e, h3 j e, cN_ne M f o c t read true e]; exact h.ni j hj
  · have hf1 : r9H (f t) ≤ 1 := by unfold r9H; split <;> omega
    by_cases e : r9H (f t) = 1
    · exact .inl (h9 e).1
    · rcases hc1 with a | ⟨a, b⟩
      · by_cases e2 : r9H (cRes M f o t read true).2 = 0
        · exact .inl (by omega)
        · exact .inr ⟨by omega, by omega⟩
      · have := hx0 b; exact .inr ⟨by omega, by omega⟩
end
end Go.Proofs.Ytchgfdfdkcijnaa
