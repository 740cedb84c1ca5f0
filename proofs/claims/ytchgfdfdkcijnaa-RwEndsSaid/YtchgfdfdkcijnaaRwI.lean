/- Many readers, or one writer: what stays so whoever goes on, and who brings it nearer to its end (no program in sight). -/
import Derived.Test.YtchgfdfdkcijnaaRwP
import Derived.Test.YtchgfdfdkcijnaaMcsPlay
namespace Go.Proofs.Ytchgfdfdkcijnaa
open Go.RowKit
/-- where one stands in the queue -/
def phS (s : Int) (r : Bool) : Int := if s = 10 then 9 else if s = 11 then 9 else if s = 12 then 7 else if s = 13 then 6 else if s = 14 then 8 else if s = 9 ∧ r = true then 0 else s
def okS (s : Int) (r : Bool) : Prop := (0 ≤ s ∧ s ≤ 5) ∨ s = 10 ∨ s = 9 ∨ (r = true ∧ 11 ≤ s ∧ s ≤ 14) ∨ (r = false ∧ (s = 6 ∨ s = 7 ∨ s = 8))
/-- a reader that is counted; one that holds it -/
def ctH (h : HandS) : Nat := if h.r = true ∧ (h.s = 9 ∨ (11 ≤ h.s ∧ h.s ≤ 14)) then 1 else 0
def r9H (h : HandS) : Nat := if h.r = true ∧ h.s = 9 then 1 else 0
def sum4 (g : Nat → Nat) : Nat := g 0 + g 1 + g 2 + g 3
def ctN (f : Nat → HandS) : Nat := sum4 fun t => ctH (f t)
def r9N (f : Nat → HandS) : Nat := sum4 fun t => r9H (f t)
theorem sum4_put {g g' : Nat → Nat} {t : Nat} (ht : t < 4) (h : ∀ q, q ≠ t → g' q = g q) : sum4 g' + g t = sum4 g + g' t := by
  unfold sum4
  match t, ht with
  | 0, _ => rw [h 1 (by decide), h 2 (by decide), h 3 (by decide)]; omega
  | 1, _ => rw [h 0 (by decide), h 2 (by decide), h 3 (by decide)]; omega
  | 2, _ => rw [h 0 (by decide), h 1 (by decide), h 3 (by decide)]; omega
  | 3, _ => rw [h 0 (by decide), h 1 (by decide), h 2 (by decide)]; omega
theorem hput_ne {f : Nat → HandS} {t q : Nat} {x : HandS} (h : q ≠ t) : hput f t x q = f q := if_neg h
theorem hput_same {f : Nat → HandS} {t : Nat} {x : HandS} : hput f t x t = x := if_pos rfl
theorem ctN_eq (f : Nat → HandS) : ctN f = ctH (f 0) + ctH (f 1) + ctH (f 2) + ctH (f 3) := rfl
theorem r9N_eq (f : Nat → HandS) : r9N f = r9H (f 0) + r9H (f 1) + r9H (f 2) + r9H (f 3) := rfl
theorem ctN_put {f : Nat → HandS} {t : Nat} (ht : t < 4) (x : HandS) : ctN (hput f t x) + ctH (f t) = ctN f + ctH x := by
  have h := sum4_put (g := fun k => ctH (f k)) (g' := fun k => ctH (hput f t x k)) ht (fun q e => by (try dsimp only); rw [hput_ne e])
  (try dsimp only at h)
  rw [hput_same] at h
  exact h
theorem r9N_put {f : Nat → HandS} {t : Nat} (ht : t < 4) (x : HandS) : r9N (hput f t x) + r9H (f t) = r9N f + r9H x := by
  have h := sum4_put (g := fun k => r9H (f k)) (g' := fun k => r9H (hput f t x k)) ht (fun q e => by (try dsimp only); rw [hput_ne e])
  (try dsimp only at h)
  rw [hput_same] at h
  exact h
theorem sum4_le (g : Nat → Nat) {t : Nat} (ht : t < 4) : g t ≤ sum4 g := by
  unfold sum4
  match t, ht with
  | 0, _ => omega
  | 1, _ => omega
  | 2, _ => omega
  | 3, _ => omega
theorem sum4_pos {g : Nat → Nat} (h : 0 < sum4 g) : ∃ t, t < 4 ∧ 0 < g t := by
  unfold sum4 at h
  by_cases h0 : 0 < g 0
  · exact ⟨0, by decide, h0⟩
  · by_cases h1 : 0 < g 1
    · exact ⟨1, by decide, h1⟩
    · by_cases h2 : 0 < g 2
      · exact ⟨2, by decide, h2⟩
      · exact ⟨3, by decide, by omega⟩
theorem r9H_pos {h : HandS} (x : 0 < r9H h) : h.r = true ∧ h.s = 9 := by
  unfold r9H at x
  by_cases e : h.r = true ∧ h.s = 9
  · exact e
  · rw [if_neg e] at x; omega
theorem ctH_pos {h : HandS} (x : 0 < ctH h) : h.r = true ∧ (h.s = 9 ∨ (11 ≤ h.s ∧ h.s ≤ 14)) := by
  unfold ctH at x
  by_cases e : h.r = true ∧ (h.s = 9 ∨ (11 ≤ h.s ∧ h.s ≤ 14))
  · exact e
  · rw [if_neg e] at x; omega
/-- the readers' word is not touched by the queue's steps -/
theorem mTake_rd {M : MemS} (hl : M.L.length = 48) {t : Nat} (ht : t < 4) (s : Int) (r : Bool) (x : Int) : (mTake M t 0 s r x).1.word (rdA 0) = M.word (rdA 0) := by
  have h1 : ∀ {u p : Nat} {v : Int}, u < 4 → p < 2 → (M.store (ndA u 0 p) v).word (rdA 0) = M.word (rdA 0) := fun hu hp => by
    rw [wordM_store (by rw [hl]; exact nd_lt48 hu hp), if_neg (by unfold rdA ndA; omega)]
  have h2 : ∀ {o v : Int}, (M.swap (tlA 0) o v).word (rdA 0) = M.word (rdA 0) := by
    intro o v
    rw [wordM_swap (by rw [hl]; decide), if_neg (fun e => by have := e.1; unfold rdA tlA at this; omega)]
  unfold mTake
  by_cases a0 : s = 0
  · rw [if_pos a0]; exact h1 ht (by decide)
  rw [if_neg a0]
  by_cases a1 : s = 1
  · rw [if_pos a1]; exact h1 ht (by decide)
  rw [if_neg a1]
  by_cases a2 : s = 2
  · rw [if_pos a2]; rfl
  rw [if_neg a2]
  by_cases a3 : s = 3
  · rw [if_pos a3]; exact h2
  rw [if_neg a3]
  by_cases a4 : s = 4
  · rw [if_pos a4]
    cases e : thN 0 x with
    | none => rfl
    | some u => exact h1 (thN_lt e).1 (by decide)
  rw [if_neg a4]
  by_cases a5 : s = 5
  · rw [if_pos a5]; rfl
  rw [if_neg a5]
theorem mDrop_rd {M : MemS} (hl : M.L.length = 48) {t : Nat} (ht : t < 4) (s : Int) (r : Bool) (x : Int) : (mDrop M t 0 s r x).1.word (rdA 0) = M.word (rdA 0) := by
  have h1 : ∀ {u p : Nat} {v : Int}, u < 4 → p < 2 → (M.store (ndA u 0 p) v).word (rdA 0) = M.word (rdA 0) := fun hu hp => by
    rw [wordM_store (by rw [hl]; exact nd_lt48 hu hp), if_neg (by unfold rdA ndA; omega)]
  have h2 : ∀ {o v : Int}, (M.swap (tlA 0) o v).word (rdA 0) = M.word (rdA 0) := by
    intro o v
    rw [wordM_swap (by rw [hl]; decide), if_neg (fun e => by have := e.1; unfold rdA tlA at this; omega)]
  unfold mDrop
  by_cases a0 : s = 9 ∨ s = 6
  · rw [if_pos a0]; rfl
  rw [if_neg a0]
  by_cases a1 : s = 7
  · rw [if_pos a1]; exact h2
  rw [if_neg a1]
  by_cases a2 : s = 8
  · rw [if_pos a2]
    cases e : thN 0 x with
    | none => rfl
    | some u => exact h1 (thN_lt e).1 (by decide)
  rw [if_neg a2]
theorem word_add7 {M : MemS} (hl : M.L.length = 48) (d : Int) (j : Nat) : (M.add (rdA 0) d).word j = if j = rdA 0 then wrap64 (M.word (rdA 0) + d) else M.word j := by
  show MemS.word ⟨M.L.set (rdA 0) _, _, _⟩ j = _
  rw [wordM_set (by rw [hl]; decide)]
  rfl
theorem View.add7 {M : MemS} {A : QA} (h : View M A) (d : Int) : View (M.add (rdA 0) d) A := by
  refine ⟨(add_len' M (rdA 0) d).trans h.len, ?_, fun t ht => ?_, fun t ht => ?_⟩
  · rw [word_add7 h.len, if_neg (by decide)]; exact h.T
  · rw [word_add7 h.len, if_neg (by unfold ndA rdA; omega)]; exact h.G t ht
  · rw [word_add7 h.len, if_neg (by unfold ndA rdA; omega)]; exact h.K t ht
/-- the hands are what the words tell, the readers' word counts them, a writer that holds it is alone -/
structure RwS (k : Nat) (M : MemS) (n : Nat → Nat) (dn Q : List Nat) (A : QA) (f : Nat → HandS) : Prop where
  py : PyS k M n dn Q A
  hd : ∀ t, t < 4 → okS (f t).s (f t).r ∧ A.s t = phS (f t).s (f t).r ∧ ((f t).s ≠ 0 → f t = ⟨t, 0, (f t).s, (f t).r, A.x t⟩)
  ct : M.word (rdA 0) = (ctN f : Nat)
  al : ∀ t, t < 4 → (f t).s = 9 → (f t).r = false → M.word (rdA 0) = 0
section
variable {k : Nat} {M M' : MemS} {n n' : Nat → Nat} {dn dn' Q Q' : List Nat} {A A' : QA} {f : Nat → HandS} {t : Nat} {s s' x : Int} {r r' : Bool}
theorem phS_lo (h : 0 ≤ s ∧ s ≤ 5) : phS s r = s := by
  unfold phS
  rw [if_neg (by omega), if_neg (by omega), if_neg (by omega), if_neg (by omega), if_neg (by omega), if_neg (by omega)]
theorem phS_9f : phS 9 false = 9 := by decide
theorem phS_9t : phS 9 true = 0 := by decide
theorem phS_10 : phS 10 r = 9 := rfl
theorem phS_wr (h : s = 6 ∨ s = 7 ∨ s = 8) : phS s r = s := by
  unfold phS
  rw [if_neg (by omega), if_neg (by omega), if_neg (by omega), if_neg (by omega), if_neg (by omega), if_neg (by omega)]
theorem phS_rd (h : 11 ≤ s ∧ s ≤ 14) : phS s r = inI s := by
  have : s = 11 ∨ s = 12 ∨ s = 13 ∨ s = 14 := by omega
  rcases this with rfl | rfl | rfl | rfl <;> rfl
theorem phS_out (h : s = 0 ∨ s = 7 ∨ s = 6 ∨ s = 8) : phS (outI s) true = s ∧ okS (outI s) true ∧ ¬ outI s = 10 ∧ ctH ⟨t, 0, outI s, true, x⟩ = 1 ∧ r9H ⟨t, 0, outI s, true, x⟩ = (if s = 0 then 1 else 0) := by
  rcases h with rfl | rfl | rfl | rfl <;> exact ⟨by decide, by unfold okS outI; simp, by decide, by simp [ctH, outI], by simp [r9H, outI]⟩
theorem RwS.put (h : RwS k M n dn Q A f) (hp : PyS k M' n' dn' Q' A') (hA : ∀ q, q ≠ t → A'.s q = A.s q ∧ A'.x q = A.x q) (hok : okS s' r') (hph : A'.s t = phS s' r') (hx : A'.x t = x)
    (hc : M'.word (rdA 0) = (ctN (hput f t ⟨t, 0, s', r', x⟩) : Nat)) (hal : (M'.word (rdA 0) = M.word (rdA 0) ∧ (s' = 9 → r' = false → M.word (rdA 0) = 0)) ∨ (¬ (s' = 9 ∧ r' = false) ∧ ∀ j, j < 4 → j ≠ t → (f j).s = 9 → (f j).r = false → False)) :
    RwS k M' n' dn' Q' A' (hput f t ⟨t, 0, s', r', x⟩) := by
  refine ⟨hp, fun j hj => ?_, hc, fun j hj h1 h2 => ?_⟩
  · by_cases e : j = t
    · subst e; rw [hput_same]; exact ⟨hok, hph, fun _ => by rw [hx]⟩
    · rw [hput_ne e, (hA j e).1, (hA j e).2]; exact h.hd j hj
  · by_cases e : j = t
    · subst e; rw [hput_same] at h1 h2
      rcases hal with ⟨a, b⟩ | ⟨a, b⟩
      · rw [a]; exact b h1 h2
      · exact absurd ⟨h1, h2⟩ a
    · rw [hput_ne e] at h1 h2
      rcases hal with ⟨a, b⟩ | ⟨a, b⟩
      · rw [a]; exact h.al j hj h1 h2
      · exact (b j hj e h1 h2).elim
/-- who is at 10, or counted on its way, or a writer that has it, is the queue's head -/
theorem RwS.head (h : RwS k M n dn Q A f) (ht : t < 4) (hs : (f t).s = 10 ∨ (11 ≤ (f t).s ∧ (f t).s ≤ 14) ∨ ((f t).s = 9 ∧ (f t).r = false)) : ∃ r, Q = t :: r := by
  refine h.py.sz t ht ?_
  rw [(h.hd t ht).2.1]
  rcases hs with e | e | ⟨e, e2⟩
  · rw [e]; exact .inl rfl
  · rw [phS_rd e]; unfold isOut; have := inI_is (f t).s; omega
  · rw [e, e2]; exact .inl rfl
theorem RwS.head_one (h : RwS k M n dn Q A f) {u : Nat} (ht : t < 4) (hu : u < 4) (hs : (f t).s = 10 ∨ (11 ≤ (f t).s ∧ (f t).s ≤ 14) ∨ ((f t).s = 9 ∧ (f t).r = false)) (hs2 : (f u).s = 10 ∨ (11 ≤ (f u).s ∧ (f u).s ≤ 14) ∨ ((f u).s = 9 ∧ (f u).r = false)) : t = u := by
  obtain ⟨r, e⟩ := h.head ht hs
  obtain ⟨r2, e2⟩ := h.head hu hs2
  rw [e] at e2
  exact (List.cons.inj e2).1
/-- a writer waits: then one reads -/
def Blk (M : MemS) (f : Nat → HandS) (c : Nat) : Prop := (f c).s = 10 ∧ (f c).r = false ∧ M.word (rdA 0) ≠ 0
theorem RwS.blk (h : RwS k M n dn Q A f) (ht : t < 4) (hb : Blk M f t) : ∃ c, c < 4 ∧ r9H (f c) = 1 := by
  have h0 : 0 < ctN f := by have := h.ct; have := hb.2.2; omega
  obtain ⟨j, hj, hp⟩ := sum4_pos h0
  obtain ⟨hr, hs⟩ := ctH_pos hp
  refine ⟨j, hj, ?_⟩
  rcases hs with hs | hs
  · unfold r9H; rw [if_pos ⟨hr, hs⟩]
  · have := h.head_one ht hj (.inl hb.1) (.inr (.inl hs))
    subst this
    have := hb.1
    omega
/-- how far it is: P; who brings it nearer: c -/
def xC (f : Nat → HandS) (c : Nat) : Int := if (f c).s = 10 then 1 else 0
theorem xC_bd (f : Nat → HandS) (c : Nat) : 0 ≤ xC f c ∧ xC f c ≤ 1 := by unfold xC; split <;> omega
def PC (k : Nat) (M : MemS) (n : Nat → Nat) (Q : List Nat) (A : QA) (f : Nat → HandS) (P : Int) (c : Nat) : Prop :=
  ∃ d c0, RC A n k d c0 Q ∧ P = 2 * (6 * lfQ n k - d) + xC f c0 + (r9N f : Nat) ∧ ((¬ Blk M f c0 ∧ c = c0) ∨ (Blk M f c0 ∧ c < 4 ∧ r9H (f c) = 1))
def PNear (k : Nat) (M : MemS) (n : Nat → Nat) (Q : List Nat) (A : QA) (f : Nat → HandS) (P : Int) (c t : Nat) : Prop :=
  ¬ NotYet n k ∨ ∃ P' c', PC k M n Q A f P' c' ∧ (P' < P ∨ (P' = P ∧ c' = c ∧ t ≠ c))
theorem RwS.pc_of (h : RwS k M n dn Q A f) {d : Int} {c0 : Nat} (hr : RC A n k d c0 Q) : ∃ c, PC k M n Q A f (2 * (6 * lfQ n k - d) + xC f c0 + (r9N f : Nat)) c := by
  by_cases hb : Blk M f c0
  · obtain ⟨c, hc, h9⟩ := h.blk (RC.d_bd h.py.q h.py.nq hr).2.2.1 hb
    exact ⟨c, d, c0, hr, rfl, .inr ⟨hb, hc, h9⟩⟩
  · exact ⟨c0, d, c0, hr, rfl, .inl ⟨hb, rfl⟩⟩
theorem RwS.pc (h : RwS k M n dn Q A f) (hn : NotYet n k) : ∃ P c, PC k M n Q A f P c := by
  obtain ⟨d, c0, hr⟩ := RC.start (A := A) hn Q
  obtain ⟨c, hp⟩ := h.pc_of hr
  exact ⟨_, c, hp⟩
/-- behind a step of the queue's: as near, or nearer -/
theorem PNear.lift (h' : RwS k M' n' dn' Q' A' (hput f t ⟨t, 0, s', r', x⟩)) (ht : t < 4) (hw : M'.word (rdA 0) = M.word (rdA 0)) (h9 : r9H (f t) = 0)
    (hnr : r9H ⟨t, 0, s', r', x⟩ = 0 ∨ ((∀ j, j < 4 → (hput f t ⟨t, 0, s', r', x⟩ j).s ≠ 10) ∧ ∀ d c, RC A n k d c Q → c = t))
    (hN : ∀ d c, RC A n k d c Q → Near n n' k d c t A' Q') {P : Int} {c : Nat} (hp : PC k M n Q A f P c) : PNear k M' n' Q' A' (hput f t ⟨t, 0, s', r', x⟩) P c t := by
  obtain ⟨d, c0, hr, rfl, hc⟩ := hp
  have hrp := r9N_put (f := f) ht ⟨t, 0, s', r', x⟩
  rw [h9] at hrp
  have h1 : r9H ⟨t, 0, s', r', x⟩ ≤ 1 := by unfold r9H; split <;> omega
  rcases hN d c0 hr with a | ⟨d', c', hr', a⟩
  · exact .inl a
  · refine .inr ?_
    have hc4 := (RC.d_bd h'.py.q h'.py.nq hr').2.2.1
    rcases a with a | ⟨a, rfl, htc⟩
    · obtain ⟨c2, hp2⟩ := h'.pc_of hr'
      refine ⟨_, c2, hp2, .inl ?_⟩
      have hx := xC_bd f c0
      rcases hnr with e | ⟨e, _⟩
      · have hx' := xC_bd (hput f t ⟨t, 0, s', r', x⟩) c'; omega
      · have hx' : xC (hput f t ⟨t, 0, s', r', x⟩) c' = 0 := by unfold xC; rw [if_neg (e c' hc4)]
        omega
    · have hnr : r9H ⟨t, 0, s', r', x⟩ = 0 := by
        rcases hnr with e | ⟨_, e⟩
        · exact e
        · exact absurd (e d c' hr).symm htc
      have hf : hput f t ⟨t, 0, s', r', x⟩ c' = f c' := hput_ne (Ne.symm htc)
      have hx : xC (hput f t ⟨t, 0, s', r', x⟩) c' = xC f c' := by unfold xC; rw [hf]
      have hbl : Blk M' (hput f t ⟨t, 0, s', r', x⟩) c' ↔ Blk M f c' := by unfold Blk; rw [hf, hw]
      refine ⟨2 * (6 * lfQ n k - d) + xC f c' + (r9N f : Nat), c, ⟨d', c', hr', by rw [hx]; omega, ?_⟩, .inr ⟨rfl, rfl, ?_⟩⟩
      · rcases hc with ⟨b, rfl⟩ | ⟨b, b2, b3⟩
        · exact .inl ⟨fun z => b (hbl.1 z), rfl⟩
        · have hct : c ≠ t := fun e => by rw [e, h9] at b3; omega
          exact .inr ⟨hbl.2 b, b2, by rw [hput_ne hct]; exact b3⟩
      · rcases hc with ⟨b, rfl⟩ | ⟨b, b2, b3⟩
        · exact htc
        · exact fun e => by rw [← e, h9] at b3; omega
theorem RC.lf (h : QI A Q) (hn : ∀ q ∈ Q, n q < k) (hk : ∀ t, t < 4 → n t ≤ k) {d : Int} {c : Nat} (hr : RC A n k d c Q) : 1 ≤ 6 * lfQ n k - d := by
  have hb := RC.d_bd h hn hr
  have h0 := hk 0 (by decide); have h1 := hk 1 (by decide); have h2 := hk 2 (by decide); have h3 := hk 3 (by decide)
  have one : ∀ j, j < 4 → n j < k → 1 ≤ lfQ n k := fun j hj hjk => by
    unfold lfQ
    match j, hj with
    | 0, _ => omega
    | 1, _ => omega
    | 2, _ => omega
    | 3, _ => omega
  cases Q with
  | nil =>
    obtain ⟨h1, h2, _, rfl⟩ := hr
    have := prQ_bd h h1 (by simp)
    have := one c h1 h2
    omega
  | cons a q =>
    cases q with
    | nil =>
      have hl := one c hb.2.2.1 hb.2.2.2
      have hd : d ≤ 5 := by
        rw [hr.1]
        unfold dlQ dlF
        rcases h.qq.1 with ⟨b, _⟩ | b | b | ⟨_, b⟩ | ⟨_, q, r', b, _⟩
        · rw [b]; simp
        · rw [b]; simp
        · rw [b]; simp
        · exact absurd rfl b
        · cases b
      omega
    | cons b r =>
      have ha := hn a (by simp); have hb' := hn b (by simp)
      have ha4 := h.lt a (by simp); have hb4 := h.lt b (by simp)
      have hab : a ≠ b := fun e => (List.nodup_cons.1 h.nd).1 (by rw [e]; simp)
      have : 2 ≤ lfQ n k := by
        unfold lfQ
        match a, b, ha4, hb4 with
        | 0, 0, _, _ => exact absurd rfl hab
        | 0, 1, _, _ => omega
        | 0, 2, _, _ => omega
        | 0, 3, _, _ => omega
        | 1, 0, _, _ => omega
        | 1, 1, _, _ => exact absurd rfl hab
        | 1, 2, _, _ => omega
        | 1, 3, _, _ => omega
        | 2, 0, _, _ => omega
        | 2, 1, _, _ => omega
        | 2, 2, _, _ => exact absurd rfl hab
        | 2, 3, _, _ => omega
        | 3, 0, _, _ => omega
        | 3, 1, _, _ => omega
        | 3, 2, _, _ => omega
        | 3, 3, _, _ => exact absurd rfl hab
      omega
end
theorem hput_twice {f : Nat → HandS} {t : Nat} {a b : HandS} : hput (hput f t a) t b = hput f t b := by
  funext k
  unfold hput
  by_cases e : k = t
  · rw [if_pos e, if_pos e]
  · rw [if_neg e, if_neg e, if_neg e]
theorem hput_id {f : Nat → HandS} {t : Nat} {a : HandS} (h : f t = a) : hput f t a = f := by
  funext k
  unfold hput
  by_cases e : k = t
  · rw [if_pos e, e, h]
  · rw [if_neg e]
section
variable {k : Nat} {M : MemS} {n : Nat → Nat} {dn Q : List Nat} {A : QA} {f : Nat → HandS} {t : Nat} {s x : Int} {r : Bool}
/-- one comes: its words are set -/
theorem RwS.fresh (h : RwS k M n dn Q A f) (ht : t < 4) (hs : (f t).s = 0) (r : Bool) : ∃ A', A'.x t = 0 ∧ RwS k M n dn Q A' (hput f t ⟨t, 0, 0, r, 0⟩) ∧ r9H (hput f t ⟨t, 0, 0, r, 0⟩ t) = r9H (f t) ∧ ∀ P c, PC k M n Q A f P c → PC k M n Q A' (hput f t ⟨t, 0, 0, r, 0⟩) P c := by
  have hA : A.s t = 0 := by rw [(h.hd t ht).2.1, hs]; exact phS_lo (by omega)
  have hq : t ∉ Q := h.py.q.notin ht (.inl hA)
  have z1 : ctH (f t) = 0 := by unfold ctH; rw [if_neg (by rw [hs]; omega)]
  have z2 : r9H (f t) = 0 := by unfold r9H; rw [if_neg (by rw [hs]; omega)]
  have z3 : ctH ⟨t, 0, 0, r, 0⟩ = 0 := by simp [ctH]
  have z4 : r9H ⟨t, 0, 0, r, 0⟩ = 0 := by simp [r9H]
  have hct := ctN_put (f := f) ht ⟨t, 0, 0, r, 0⟩
  have hr9 := r9N_put (f := f) ht ⟨t, 0, 0, r, 0⟩
  have hI : QI { A with x := upd A.x t 0 } Q := h.py.q.outer ht hq rfl (fun _ _ => rfl) (fun _ _ => rfl) (fun _ _ => rfl) (fun q e => upd_ne e) (.inl hA)
  refine ⟨{ A with x := upd A.x t 0 }, upd_same, h.put (PyS.mk' (h.py.v.same rfl rfl rfl) hI h.py.nq h.py.nk h.py.cn) (fun q e => ⟨rfl, upd_ne e⟩) (.inl (by omega)) (hA.trans (phS_lo (by omega)).symm) upd_same (by rw [h.ct]; congr 1; omega) (.inl ⟨rfl, fun e => by omega⟩), by rw [hput_same, z2, z4], ?_⟩
  rintro P c ⟨d, c0, hr, hP, hc⟩
  have hs' : ∀ j, (hput f t ⟨t, 0, 0, r, 0⟩ j).s = (f j).s := fun j => by
    by_cases e : j = t
    · subst e; rw [hput_same, hs]
    · rw [hput_ne e]
  have hR : RC { A with x := upd A.x t 0 } n k d c0 Q := by
    cases Q with
    | nil =>
      have hp : ∀ j, prQ { A with x := upd A.x t 0 } j = prQ A j := fun j => by
        by_cases e : j = t
        · subst e; unfold prQ; dsimp only; rw [hA]; rfl
        · unfold prQ; dsimp only; rw [upd_ne e]
      obtain ⟨a, b, c, e⟩ := hr
      exact ⟨a, b, fun j hj hk => by rw [hp, hp]; exact c j hj hk, by rw [hp]; exact e⟩
    | cons a q => exact hr
  have hx : xC (hput f t ⟨t, 0, 0, r, 0⟩) c0 = xC f c0 := by unfold xC; rw [hs' c0]
  have hb : Blk M (hput f t ⟨t, 0, 0, r, 0⟩) c0 ↔ Blk M f c0 := by
    by_cases e : c0 = t
    · subst e; unfold Blk; rw [hput_same, hs]; exact ⟨fun e => absurd e.1 (show ¬ (0 : Int) = 10 by decide), fun e => absurd e.1 (by decide)⟩
    · unfold Blk; rw [hput_ne e]
  refine ⟨d, c0, hR, by rw [hx, hP]; omega, ?_⟩
  rcases hc with ⟨b, e⟩ | ⟨b, c4, e⟩
  · exact .inl ⟨fun z => b (hb.1 z), e⟩
  · refine .inr ⟨hb.2 b, c4, ?_⟩
    rw [hput_ne (fun e2 => by rw [e2, z2] at e; omega)]; exact e
/-- a step to hold it -/
theorem RwS.take (h : RwS k M n dn Q A f) (ht : t < 4) (hf : f t = ⟨t, 0, s, r, x⟩) (hx : A.x t = x) (hs9 : s ≠ 9) (ho : ¬ (r = false ∧ (s = 6 ∨ s = 7 ∨ s = 8))) (hn : (0 ≤ s ∧ s ≤ 5) → n t < k) :
    ∃ M' s' x' n' dn' Q' A', wTakeI M ⟨t, 0, s, r, x⟩ = (M', ⟨t, 0, s', r, x'⟩) ∧ RwS k M' n' dn' Q' A' (hput f t ⟨t, 0, s', r, x'⟩) ∧ A'.x t = x' ∧ (∀ q, q ≠ t → n' q = n q) ∧ n' t + r9H (f t) = n t + r9H ⟨t, 0, s', r, x'⟩ ∧ ¬ (r = false ∧ (s' = 6 ∨ s' = 7 ∨ s' = 8)) ∧
      ∀ P c, PC k M n Q A f P c → PNear k M' n' Q' A' (hput f t ⟨t, 0, s', r, x'⟩) P c t := by
  have hd := h.hd t ht
  rw [hf] at hd
  obtain ⟨hok, hph, _⟩ := hd
  dsimp only at hok hph
  have hl := h.py.v.len
  have e0 : wTakeI M ⟨t, 0, s, r, x⟩ = wTake M t 0 s r x := wTakeI_nat ht (l := 0) (by decide) s r x
  rw [e0]
  have hs : (0 ≤ s ∧ s ≤ 5) ∨ (s = 10 ∧ r = true) ∨ (s = 10 ∧ r = false) ∨ (r = true ∧ 11 ≤ s ∧ s ≤ 14) := by
    unfold okS at hok
    cases r
    · rcases hok with a | a | a | ⟨a, _⟩ | a
      · exact .inl a
      · exact .inr (.inr (.inl ⟨a, rfl⟩))
      · exact absurd a hs9
      · cases a
      · exact absurd a ho
    · rcases hok with a | a | a | a | ⟨a, _⟩
      · exact .inl a
      · exact .inr (.inl ⟨a, rfl⟩)
      · exact absurd a hs9
      · exact .inr (.inr (.inr a))
      · cases a
  rcases hs with hs | ⟨rfl, rfl⟩ | ⟨rfl, rfl⟩ | ⟨rfl, hs⟩
  · -- towards the queue, and in it
    have hAs : A.s t = s := by rw [hph, phS_lo hs]
    have z1 : ctH (f t) = 0 := by rw [hf]; unfold ctH; rw [if_neg (by dsimp only; omega)]
    have z2 : r9H (f t) = 0 := by rw [hf]; unfold r9H; rw [if_neg (by dsimp only; omega)]
    obtain ⟨M', A', Q', hd, hy', _, hsx, _, _, ho', hnear⟩ := h.py.take ht (hn hs) (by rw [hAs]; unfold isOut; omega) r
    rw [hAs, hx] at hd
    have hrd := mTake_rd hl ht s r x
    rw [hd] at hrd
    dsimp only at hrd
    have hA' : (0 ≤ A'.s t ∧ A'.s t ≤ 5) ∨ A'.s t = 9 := by
      have h1 : isOut (A'.s t) ∨ (0 ≤ A'.s t ∧ A'.s t ≤ 5) := by
        unfold isOut
        by_cases hq : t ∈ Q'
        · rcases hy'.q.in_s hq with ⟨r, _, h5⟩ | ⟨_, _, _, _, _, e⟩
          · rcases h5 with ⟨b, _⟩ | b | b | ⟨b, _⟩ | ⟨b, _⟩ <;> omega
          · omega
        · have := hy'.q.out_s ht hq; omega
      rcases h1 with a | a
      · exact .inr (ho' a)
      · exact .inl a
    obtain ⟨s', hs'⟩ : ∃ z : Int, (if A'.s t = 9 then 10 else A'.s t) = z := ⟨_, rfl⟩
    have hss : ((0 ≤ s' ∧ s' ≤ 5) ∧ A'.s t = s') ∨ (s' = 10 ∧ A'.s t = 9) := by
      rcases hA' with a | a
      · rw [if_neg (by omega)] at hs'; exact .inl ⟨by omega, hs'⟩
      · rw [if_pos a] at hs'; exact .inr ⟨hs'.symm, a⟩
    have y1 : ctH ⟨t, 0, s', r, A'.x t⟩ = 0 := by unfold ctH; rw [if_neg (by dsimp only; omega)]
    have y2 : r9H ⟨t, 0, s', r, A'.x t⟩ = 0 := by unfold r9H; rw [if_neg (by dsimp only; omega)]
    have hct := ctN_put (f := f) ht ⟨t, 0, s', r, A'.x t⟩
    have hS : RwS k M' n dn Q' A' (hput f t ⟨t, 0, s', r, A'.x t⟩) := h.put hy' hsx (by unfold okS; omega) (by
      rcases hss with ⟨a, b⟩ | ⟨a, b⟩
      · rw [phS_lo a]; exact b
      · rw [a]; exact b) rfl (by rw [hrd, h.ct]; congr 1; omega) (.inl ⟨hrd, fun e => by omega⟩)
    refine ⟨M', s', _, n, dn, Q', A', ?_, hS, rfl, fun _ _ => rfl, by rw [z2, y2], by omega, fun P c hp => PNear.lift hS ht hrd z2 (.inl y2) hnear hp⟩
    unfold wTake
    rw [if_pos hs, hd]
    dsimp only
    rw [hs']; rfl
  · -- a reader is counted
    have z1 : ctH (f t) = 0 := by rw [hf]; simp [ctH]
    have z2 : r9H (f t) = 0 := by rw [hf]; simp [r9H]
    have y1 : ctH ⟨t, 0, 11, true, x⟩ = 1 := by simp [ctH]
    have y2 : r9H ⟨t, 0, 11, true, x⟩ = 0 := by simp [r9H]
    have hct := ctN_put (f := f) ht ⟨t, 0, 11, true, x⟩
    have hrp := r9N_put (f := f) ht ⟨t, 0, 11, true, x⟩
    have hle : ctN f ≤ 4 := by
      have : ∀ j, ctH (f j) ≤ 1 := fun j => by unfold ctH; split <;> omega
      have a0 := this 0; have a1 := this 1; have a2 := this 2; have a3 := this 3
      unfold ctN sum4; dsimp only; omega
    have hs10 : (f t).s = 10 := by rw [hf]
    have hS : RwS k (M.add (rdA 0) 1) n dn Q A (hput f t ⟨t, 0, 11, true, x⟩) := h.put (PyS.mk' (h.py.v.add7 1) h.py.q h.py.nq h.py.nk h.py.cn) (fun _ _ => ⟨rfl, rfl⟩) (by unfold okS; simp) hph hx (by
      rw [word_add7 hl, if_pos rfl, h.ct, wrap64_id (by omega) (by omega)]; omega) (.inr ⟨fun e => by have := e.1; omega, fun j hj hjt h1 h2 => hjt (h.head_one hj ht (.inr (.inr ⟨h1, h2⟩)) (.inl hs10))⟩)
    refine ⟨_, 11, x, n, dn, Q, A, rfl, hS, hx, fun _ _ => rfl, by rw [z2, y2], (fun e => by cases e.1), ?_⟩
    rintro P c ⟨d, c0, hr, hP, _⟩
    obtain ⟨q, hq⟩ := h.head ht (.inl hs10)
    have hct0 : c0 = t := by
      subst hq
      rw [hr.2]; unfold crQ crF
      rw [if_neg (fun e => by have := e.1; rw [hph] at this; exact absurd this (by decide))]
    subst hct0
    obtain ⟨c', hp'⟩ := hS.pc_of hr
    refine .inr ⟨_, c', hp', .inl ?_⟩
    have x1 : xC f c0 = 1 := by unfold xC; rw [hs10]; rfl
    have x2 : xC (hput f c0 ⟨c0, 0, 11, true, x⟩) c0 = 0 := by unfold xC; rw [hput_same]; rfl
    rw [hP, x1, x2]; omega
  · -- a writer waits for the readers
    have z1 : ctH (f t) = 0 := by rw [hf]; simp [ctH]
    have z2 : r9H (f t) = 0 := by rw [hf]; simp [r9H]
    have hs10 : (f t).s = 10 := by rw [hf]
    obtain ⟨q, hq⟩ := h.head ht (.inl hs10)
    have hv : View (M.load (rdA 0)) A := h.py.v.load _
    by_cases hz : M.word (rdA 0) = 0
    · have y1 : ctH ⟨t, 0, 9, false, x⟩ = 0 := by simp [ctH]
      have y2 : r9H ⟨t, 0, 9, false, x⟩ = 0 := by simp [r9H]
      have hct := ctN_put (f := f) ht ⟨t, 0, 9, false, x⟩
      have hrp := r9N_put (f := f) ht ⟨t, 0, 9, false, x⟩
      have hS : RwS k (M.load (rdA 0)) n dn Q A (hput f t ⟨t, 0, 9, false, x⟩) := h.put (PyS.mk' hv h.py.q h.py.nq h.py.nk h.py.cn) (fun _ _ => ⟨rfl, rfl⟩) (by unfold okS; simp) hph hx (by
        rw [wordM_load, h.ct]; congr 1; omega) (.inl ⟨rfl, fun _ _ => hz⟩)
      refine ⟨M.load (rdA 0), 9, x, n, dn, Q, A, ?_, hS, hx, fun _ _ => rfl, by rw [z2, y2], fun e => by omega, ?_⟩
      · unfold wTake; rw [if_neg (by decide), if_pos rfl, if_pos hz]; rfl
      rintro P c ⟨d, c0, hr, hP, _⟩
      have hct0 : c0 = t := by
        subst hq
        rw [hr.2]; unfold crQ crF
        rw [if_neg (fun e => by have := e.1; rw [hph] at this; exact absurd this (by decide))]
      subst hct0
      obtain ⟨c', hp'⟩ := hS.pc_of hr
      refine .inr ⟨_, c', hp', .inl ?_⟩
      have x1 : xC f c0 = 1 := by unfold xC; rw [hs10]; rfl
      have x2 : xC (hput f c0 ⟨c0, 0, 9, false, x⟩) c0 = 0 := by unfold xC; rw [hput_same]; rfl
      rw [hP, x1, x2]; omega
    · have hid : hput f t ⟨t, 0, 10, false, x⟩ = f := hput_id hf
      have hS : RwS k (M.load (rdA 0)) n dn Q A f := ⟨PyS.mk' hv h.py.q h.py.nq h.py.nk h.py.cn, h.hd, h.ct, h.al⟩
      refine ⟨M.load (rdA 0), 10, x, n, dn, Q, A, ?_, by rw [hid]; exact hS, hx, fun _ _ => rfl, by rw [hf], fun e => by omega, ?_⟩
      · unfold wTake; rw [if_neg (by decide), if_pos rfl, if_neg hz]; rfl
      rintro P c ⟨d, c0, hr, hP, hc⟩
      have hct0 : c0 = t := by
        subst hq
        rw [hr.2]; unfold crQ crF
        rw [if_neg (fun e => by have := e.1; rw [hph] at this; exact absurd this (by decide))]
      subst hct0
      rw [hid]
      refine .inr ⟨P, c, ⟨d, c0, hr, hP, hc⟩, .inr ⟨rfl, rfl, ?_⟩⟩
      rcases hc with ⟨b, _⟩ | ⟨_, _, b⟩
      · exact absurd ⟨hs10, by rw [hf], hz⟩ b
      · exact fun e => by rw [← e, z2] at b; omega
  · -- a reader leaves the queue
    have hAs : A.s t = inI s := by rw [hph, phS_rd hs]
    have hin := inI_is s
    have z1 : ctH (f t) = 1 := by rw [hf]; unfold ctH; rw [if_pos ⟨rfl, .inr hs⟩]
    have z2 : r9H (f t) = 0 := by rw [hf]; unfold r9H; rw [if_neg (by dsimp only; omega)]
    obtain ⟨M', A', Q', dn', n', hd, hy', _, hsx, _, _, hn', ho', hnear⟩ := h.py.drop ht (by rw [hAs]; unfold isOut; omega) true
    rw [hAs, hx] at hd
    have hrd := mDrop_rd hl ht (inI s) true x
    rw [hd] at hrd
    dsimp only at hrd
    have hto : A'.s t = 0 ∨ A'.s t = 7 ∨ A'.s t = 6 ∨ A'.s t = 8 := by
      unfold isOut at ho'; omega
    obtain ⟨o1, o2, o3, o4, o5⟩ := phS_out (t := t) (x := A'.x t) hto
    have hct := ctN_put (f := f) ht ⟨t, 0, outI (A'.s t), true, A'.x t⟩
    have hhd := h.head ht (.inr (.inl (by rw [hf]; exact hs)))
    have hS : RwS k M' n' dn' Q' A' (hput f t ⟨t, 0, outI (A'.s t), true, A'.x t⟩) := h.put hy' hsx o2 o1.symm rfl (by rw [hrd, h.ct]; congr 1; omega) (.inl ⟨hrd, fun _ e => by cases e⟩)
    have hne : ∀ q, q ≠ t → n' q = n q := fun q e => by
      rw [hn']; split
      · unfold nput; rw [if_neg e]
      · rfl
    refine ⟨M', outI (A'.s t), _, n', dn', Q', A', ?_, hS, rfl, hne, ?_, (fun e => by cases e.1), fun P c hp => PNear.lift hS ht hrd z2 ?_ hnear hp⟩
    · unfold wTake
      rw [if_neg (by omega), if_neg (by omega), if_pos ⟨rfl, hs⟩, hd]; rfl
    · rw [z2, o5, hn']
      by_cases e : A'.s t = 0
      · rw [if_pos e, if_pos e]; unfold nput; rw [if_pos rfl]
      · rw [if_neg e, if_neg e]
    · rw [o5]
      by_cases e : A'.s t = 0
      · refine .inr ⟨fun j hj e10 => ?_, fun d c hr => ?_⟩
        · by_cases ej : j = t
          · rw [ej, hput_same] at e10; exact o3 e10
          · rw [hput_ne ej] at e10
            exact ej (h.head_one hj ht (.inl e10) (.inr (.inl (by rw [hf]; exact hs))))
        · obtain ⟨q, rfl⟩ := hhd
          rw [hr.2]; unfold crQ crF
          rw [if_neg]
          rintro ⟨e6, ek⟩
          rw [hAs] at e6
          -- at 6 with no link nothing goes on
          have : A'.s t = 6 := by
            have hk := h.py.v.K t ht
            have h2 : (mDrop M t 0 (inI s) true x).2.s = 6 := by
              unfold mDrop; rw [if_pos (.inr e6), ← hk, if_pos ek, if_neg (by omega)]
            rw [hd] at h2; exact h2
          omega
      · rw [if_neg e]; exact .inl rfl
/-- a step to let others in -/
theorem RwS.drop (h : RwS k M n dn Q A f) (ht : t < 4) (hf : f t = ⟨t, 0, s, r, x⟩) (hx : A.x t = x) (hs : s = 9 ∨ (r = false ∧ (s = 6 ∨ s = 7 ∨ s = 8))) :
    ∃ M' s' x' n' dn' Q' A', wDropI M ⟨t, 0, s, r, x⟩ = (M', ⟨t, 0, s', r, x'⟩) ∧ RwS k M' n' dn' Q' A' (hput f t ⟨t, 0, s', r, x'⟩) ∧ A'.x t = x' ∧ (∀ q, q ≠ t → n' q = n q) ∧ n' t + r9H (f t) = n t + r9H ⟨t, 0, s', r, x'⟩ + (if s' = 0 then 1 else 0) ∧ (s' = 0 ∨ (r = false ∧ (s' = 6 ∨ s' = 7 ∨ s' = 8))) ∧
      ∀ P c, PC k M n Q A f P c → PNear k M' n' Q' A' (hput f t ⟨t, 0, s', r, x'⟩) P c t := by
  have hd := h.hd t ht
  rw [hf] at hd
  obtain ⟨hok, hph, _⟩ := hd
  dsimp only at hok hph
  have hl := h.py.v.len
  have e0 : wDropI M ⟨t, 0, s, r, x⟩ = wDrop M t 0 s r x := wDropI_nat ht (l := 0) (by decide) s r x
  rw [e0]
  cases r with
  | false =>
    have hAs : A.s t = s := by
      rw [hph]
      rcases hs with rfl | ⟨_, hs⟩
      · rfl
      · exact phS_wr hs
    have z1 : ctH (f t) = 0 := by rw [hf]; simp [ctH]
    have z2 : r9H (f t) = 0 := by rw [hf]; simp [r9H]
    obtain ⟨M', A', Q', dn', n', hd, hy', _, hsx, _, _, hn', ho', hnear⟩ := h.py.drop ht (by rw [hAs]; unfold isOut; omega) false
    rw [hAs, hx] at hd
    have hrd := mDrop_rd hl ht s false x
    rw [hd] at hrd
    dsimp only at hrd
    have hto : A'.s t = 0 ∨ A'.s t = 6 ∨ A'.s t = 7 ∨ A'.s t = 8 := by
      unfold isOut at ho'; omega
    have y1 : ctH ⟨t, 0, A'.s t, false, A'.x t⟩ = 0 := by simp [ctH]
    have y2 : r9H ⟨t, 0, A'.s t, false, A'.x t⟩ = 0 := by simp [r9H]
    have hct := ctN_put (f := f) ht ⟨t, 0, A'.s t, false, A'.x t⟩
    have hS : RwS k M' n' dn' Q' A' (hput f t ⟨t, 0, A'.s t, false, A'.x t⟩) := h.put hy' hsx (by
      unfold okS
      rcases hto with e | e
      · exact .inl (by omega)
      · exact .inr (.inr (.inr (.inr ⟨rfl, e⟩)))) (by
      rcases hto with e | e
      · rw [e]; rfl
      · exact (phS_wr e).symm) rfl (by rw [hrd, h.ct]; congr 1; omega) (.inl ⟨hrd, fun e => by omega⟩)
    have hne : ∀ q, q ≠ t → n' q = n q := fun q e => by
      rw [hn']; split
      · unfold nput; rw [if_neg e]
      · rfl
    refine ⟨M', A'.s t, _, n', dn', Q', A', hd, hS, rfl, hne, ?_, hto.elim .inl (fun e => .inr ⟨rfl, e⟩), fun P c hp => PNear.lift hS ht hrd z2 (.inl y2) hnear hp⟩
    rw [z2, y2, hn']
    by_cases e : A'.s t = 0
    · rw [if_pos e, if_pos e]; unfold nput; rw [if_pos rfl]
    · rw [if_neg e, if_neg e]
  | true =>
    obtain rfl : s = 9 := by
      rcases hs with e | ⟨e, _⟩
      · exact e
      · cases e
    have z1 : ctH (f t) = 1 := by rw [hf]; simp [ctH]
    have z2 : r9H (f t) = 1 := by rw [hf]; simp [r9H]
    have y1 : ctH ⟨t, 0, 0, true, x⟩ = 0 := by simp [ctH]
    have y2 : r9H ⟨t, 0, 0, true, x⟩ = 0 := by simp [r9H]
    have hct := ctN_put (f := f) ht ⟨t, 0, 0, true, x⟩
    have hrp := r9N_put (f := f) ht ⟨t, 0, 0, true, x⟩
    have hle : ctN f ≤ 4 := by
      have : ∀ j, ctH (f j) ≤ 1 := fun j => by unfold ctH; split <;> omega
      have a0 := this 0; have a1 := this 1; have a2 := this 2; have a3 := this 3
      unfold ctN sum4; dsimp only; omega
    have hS : RwS k (M.add (rdA 0) (-1)) n dn Q A (hput f t ⟨t, 0, 0, true, x⟩) := h.put (PyS.mk' (h.py.v.add7 (-1)) h.py.q h.py.nq h.py.nk h.py.cn) (fun _ _ => ⟨rfl, rfl⟩) (by unfold okS; simp) hph hx (by
      rw [word_add7 hl, if_pos rfl, h.ct, wrap64_id (by omega) (by omega)]; omega) (.inr ⟨fun e => by have := e.1; omega, fun j hj hjt h1 h2 => by have := h.al j hj h1 h2; have := h.ct; omega⟩)
    refine ⟨_, 0, x, n, dn, Q, A, rfl, hS, hx, fun _ _ => rfl, by rw [z2, y2, if_pos rfl], .inl rfl, ?_⟩
    rintro P c ⟨d, c0, hr, hP, _⟩
    obtain ⟨c', hp'⟩ := hS.pc_of hr
    refine .inr ⟨_, c', hp', .inl ?_⟩
    have x2 : xC (hput f t ⟨t, 0, 0, true, x⟩) c0 ≤ xC f c0 := by
      by_cases e : c0 = t
      · subst e
        have : xC (hput f c0 ⟨c0, 0, 0, true, x⟩) c0 = 0 := by unfold xC; rw [hput_same]; rfl
        rw [this]; exact (xC_bd f c0).1
      · unfold xC; rw [hput_ne e]; exact Int.le_refl _
    rw [hP]; omega
end
end Go.Proofs.Ytchgfdfdkcijnaa
