/- Rows at layer 20's map: what sleeping and waking do to the words (no program in sight). -/
import Derived.Test.YtodaiogefgdcpaaCondqTold
namespace Go.Proofs.Ytodaiogefgdcpaa
open Go.RowKit
abbrev m20 : MapS := ⟨1, 1, 4, 2, 1⟩
theorem cnd20 : (∀ c : Nat, c < 2 → ∀ p : Nat, p < 6 → condP m20 c p = 29 + 6 * c + p) := by
  intro c hc p hp
  match c, hc with
  | 0, _ =>
    match p, hp with
    | 0, _ => rfl
    | 1, _ => rfl
    | 2, _ => rfl
    | 3, _ => rfl
    | 4, _ => rfl
    | 5, _ => rfl
  | 1, _ =>
    match p, hp with
    | 0, _ => rfl
    | 1, _ => rfl
    | 2, _ => rfl
    | 3, _ => rfl
    | 4, _ => rfl
    | 5, _ => rfl
theorem flg20 : ∀ t : Nat, t < 4 → flagP m20 t = 25 + t := by
  intro t ht
  match t, ht with
  | 0, _ => rfl
  | 1, _ => rfl
  | 2, _ => rfl
  | 3, _ => rfl
theorem fits20 {c t : Nat} (hc : c < 2) (ht : t < 4) (k s f l : Int) : fitsB m20 ⟨k, c, t, s, f, l⟩ = true := by
  unfold fitsB
  have h1 : condP m20 c 0 = 29 + 6 * c + 0 := cnd20 c hc 0 (by omega)
  dsimp only
  rw [h1, flg20 t ht, decide_eq_true (by omega), decide_eq_true (by omega)]
  rfl
/-- the slot of a number -/
def sl20 (c : Nat) (n : Int) : Nat := 31 + 6 * c + (n % 4).toNat
theorem slt20 {c : Nat} (hc : c < 2) (n : Int) : slotP m20 c n = (sl20 c n : Nat) := by
  unfold slotP
  obtain ⟨p, hp, hp6⟩ : ∃ p : Nat, 2 + n % 4 = (p : Int) ∧ p < 6 := ⟨(2 + n % 4).toNat, by omega, by omega⟩
  rw [hp, cnd20 c hc p hp6]
  unfold sl20
  omega
theorem sl20_bd (c : Nat) (hc : c < 2) (n : Int) : 31 + 6 * c ≤ sl20 c n ∧ sl20 c n < 35 + 6 * c := by unfold sl20; omega
theorem nx_none {m : MapS} {r : RowS} (h : nextA m r = ⟨0, 0, 0⟩) : (nextA m r).k = 0 := by rw [h]
theorem nS0 {c t : Nat} (hc : c < 2) (ht : t < 4) (f l : Int) : nextA m20 ⟨1, c, t, 0, f, l⟩ = ⟨1, (30 + 6 * c : Nat), 0⟩ := by
  unfold nextA sleepsA
  rw [fits20 hc ht, if_pos rfl, if_pos rfl, if_pos rfl]
  have h1 : condP m20 c 1 = 29 + 6 * c + 1 := cnd20 c hc 1 (by omega)
  rw [h1]; congr 1; omega
theorem nS1 {c t : Nat} (hc : c < 2) (ht : t < 4) (f l : Int) : nextA m20 ⟨1, c, t, 1, f, l⟩ = ⟨2, (sl20 c l : Nat), t + 1⟩ := by
  unfold nextA sleepsA
  rw [fits20 hc ht, if_pos rfl, if_pos rfl, if_neg (by simp), if_pos rfl]
  dsimp only
  rw [slt20 hc, wrap64_id (by omega) (by omega)]
theorem nS2 {c t : Nat} (hc : c < 2) (ht : t < 4) (f l : Int) (h0 : 0 ≤ l) (h1 : l < 1000) : nextA m20 ⟨1, c, t, 2, f, l⟩ = ⟨2, (30 + 6 * c : Nat), l + 1⟩ := by
  unfold nextA sleepsA
  rw [fits20 hc ht, if_pos rfl, if_pos rfl, if_neg (by simp), if_neg (by simp), if_pos rfl]
  have h1 : condP m20 c 1 = 29 + 6 * c + 1 := cnd20 c hc 1 (by omega)
  dsimp only
  rw [h1, wrap64_id (by omega) (by omega)]; congr 1; omega
theorem nS3 {c t : Nat} (hc : c < 2) (ht : t < 4) (f l : Int) : nextA m20 ⟨1, c, t, 3, f, l⟩ = ⟨2, (25 + t : Nat), 1⟩ := by
  unfold nextA sleepsA
  rw [fits20 hc ht, if_pos rfl, if_pos rfl, if_neg (by simp), if_neg (by simp), if_neg (by simp), if_pos rfl]
  dsimp only
  rw [flg20 t ht]
  try congr 1
theorem nS9 {c t : Nat} (hc : c < 2) (ht : t < 4) (f l : Int) : nextA m20 ⟨1, c, t, 9, f, l⟩ = ⟨0, 0, 0⟩ := by
  unfold nextA sleepsA
  rw [fits20 hc ht, if_pos rfl, if_pos rfl, if_neg (by simp), if_neg (by simp), if_neg (by simp), if_neg (by simp)]
theorem nW {c t : Nat} (hc : c < 2) (ht : t < 4) (f l : Int) {k s : Int} (hk : k = 2 ∨ k = 3) : nextA m20 ⟨k, c, t, s, f, l⟩ = wakesA m20 ⟨k, c, t, s, f, l⟩ := by
  unfold nextA
  rw [fits20 hc ht, if_pos rfl]
  dsimp only
  rw [if_neg (by omega), if_pos hk]
theorem nW0 {c t : Nat} (hc : c < 2) (ht : t < 4) (f l : Int) {k : Int} (hk : k = 2 ∨ k = 3) : nextA m20 ⟨k, c, t, 0, f, l⟩ = ⟨1, (29 + 6 * c : Nat), 0⟩ := by
  rw [nW hc ht f l hk]
  unfold wakesA
  rw [if_pos rfl]
  have h1 : condP m20 c 0 = 29 + 6 * c + 0 := cnd20 c hc 0 (by omega)
  rw [h1]; congr 1
theorem nW1 {c t : Nat} (hc : c < 2) (ht : t < 4) (f l : Int) {k : Int} (hk : k = 2 ∨ k = 3) : nextA m20 ⟨k, c, t, 1, f, l⟩ = ⟨1, (30 + 6 * c : Nat), 0⟩ := by
  rw [nW hc ht f l hk]
  unfold wakesA
  rw [if_neg (by simp), if_pos rfl]
  have h1 : condP m20 c 1 = 29 + 6 * c + 1 := cnd20 c hc 1 (by omega)
  rw [h1]; congr 1; omega
theorem nW2 {c t : Nat} (hc : c < 2) (ht : t < 4) (f l : Int) {k : Int} (hk : k = 2 ∨ k = 3) : nextA m20 ⟨k, c, t, 2, f, l⟩ = ⟨1, (sl20 c f : Nat), 0⟩ := by
  rw [nW hc ht f l hk]
  unfold wakesA
  rw [if_neg (by simp), if_neg (by simp), if_pos rfl]
  dsimp only
  rw [slt20 hc]
theorem nW8 {c t : Nat} (hc : c < 2) (ht : t < 4) (f l : Int) {k : Int} (hk : k = 2 ∨ k = 3) (h0 : 0 ≤ f) (h1 : f < 1000) : nextA m20 ⟨k, c, t, 8, f, l⟩ = ⟨2, (29 + 6 * c : Nat), f + 1⟩ := by
  rw [nW hc ht f l hk]
  unfold wakesA
  rw [if_neg (by simp), if_neg (by simp), if_neg (by simp), if_pos rfl]
  have h1 : condP m20 c 0 = 29 + 6 * c + 0 := cnd20 c hc 0 (by omega)
  dsimp only
  rw [h1, wrap64_id (by omega) (by omega)]; congr 1
theorem nW10 {c t : Nat} (hc : c < 2) (ht : t < 4) (f l : Int) {k : Int} (hk : k = 2 ∨ k = 3) {u : Nat} (hu : u < 4) : nextA m20 ⟨k, c, t, 10 + u, f, l⟩ = ⟨2, (25 + u : Nat), 0⟩ := by
  rw [nW hc ht f l hk]
  unfold wakesA
  have e : (10 + (u : Int) - 10) = (u : Int) := by omega
  dsimp only
  rw [if_neg (by omega), if_neg (by omega), if_neg (by omega), if_neg (by omega), e, flg20 u hu, if_pos ⟨by omega, by omega⟩]
  try congr 1
theorem nW9 {c t : Nat} (hc : c < 2) (ht : t < 4) (f l : Int) {k : Int} (hk : k = 2 ∨ k = 3) : nextA m20 ⟨k, c, t, 9, f, l⟩ = ⟨0, 0, 0⟩ := by
  rw [nW hc ht f l hk]
  unfold wakesA
  dsimp only
  rw [if_neg (by decide), if_neg (by decide), if_neg (by decide), if_neg (by decide), if_neg (fun h => absurd h.1 (by decide))]
theorem wordQ_set {L : List Int} {st : Int} {la : Acc} {i j : Nat} {x : Int} (hi : i < L.length) : MemS.word ⟨L.set i x, st, la⟩ j = if j = i then x else MemS.word ⟨L, st, la⟩ j := by
  unfold MemS.word
  rw [List.getD_eq_getElem?_getD, List.getD_eq_getElem?_getD, List.getElem?_set]
  by_cases e : i = j
  · subst e; simp [hi]
  · rw [if_neg e, if_neg (Ne.symm e)]
theorem wordQ_store {M : MemS} {i j : Nat} {x : Int} (hi : i < M.L.length) : (M.store i x).word j = if j = i then x else M.word j := wordQ_set hi
theorem lenQ_store {M : MemS} {i : Nat} {d : Int} : (M.store i d).L.length = M.L.length := by simp [MemS.store]
theorem stepD_load {m : MapS} {M : MemS} {r r' : RowS} {n : Nat} {z : Int} (hn : n < M.L.length) (h : nextA m r = ⟨1, (n : Nat), z⟩) (hf : fedR m r (M.word n) = r') : stepD m (M, r) = (M.load n, r') := by
  unfold stepD
  dsimp only
  rw [h, if_pos rfl]
  have e : M.atP (n : Int) = M.word n := by unfold MemS.atP; rw [inR_nat hn]; rfl
  have e2 : M.loadI (n : Int) = M.load n := by unfold MemS.loadI; rw [inR_nat hn]; rfl
  dsimp only
  rw [e, e2, hf]
theorem stepD_store {m : MapS} {M : MemS} {r r' : RowS} {n : Nat} {x : Int} (hn : n < M.L.length) (h : nextA m r = ⟨2, (n : Nat), x⟩) (hf : fedR m r 0 = r') : stepD m (M, r) = (M.store n x, r') := by
  unfold stepD
  dsimp only
  rw [h, if_neg (by simp)]
  have e2 : M.storeI (n : Int) x = M.store n x := by unfold MemS.storeI; rw [inR_nat hn]; rfl
  dsimp only
  rw [e2, hf]
/-- one who sleeps -/
theorem sleep4 {M : MemS} (hl : M.L.length = 43) {c t : Nat} (hc : c < 2) (ht : t < 4) {e : Int} (he : M.word (30 + 6 * c) = e) (h0 : 0 ≤ e) (h1 : e < 1000) :
    ∃ M', (iterD m20 (M, startR 1 c t) 4).1 = M' ∧ (nextA m20 (iterD m20 (M, startR 1 c t) 4).2).k = 0 ∧ (∀ j, j < 4 → ¬ (nextA m20 (iterD m20 (M, startR 1 c t) j).2).k = 0) ∧ M'.L.length = 43 ∧
      ∀ i, M'.word i = if i = 25 + t then 1 else if i = 30 + 6 * c then e + 1 else if i = sl20 c e then t + 1 else M.word i := by
  have hb := sl20_bd c hc e
  have i0 : iterD m20 (M, startR 1 c t) 0 = (M, ⟨1, c, t, 0, 0, 0⟩) := rfl
  have i1 : iterD m20 (M, startR 1 c t) 1 = (M.load (30 + 6 * c), ⟨1, c, t, 1, 0, e⟩) := by
    show stepD m20 (iterD m20 (M, startR 1 c t) 0) = _
    rw [i0]
    refine stepD_load (by omega) (nS0 hc ht 0 0) ?_
    unfold fedR; rw [nS0 hc ht 0 0, he]; rfl
  have i2 : iterD m20 (M, startR 1 c t) 2 = ((M.load (30 + 6 * c)).store (sl20 c e) (t + 1), ⟨1, c, t, 2, 0, e⟩) := by
    show stepD m20 (iterD m20 (M, startR 1 c t) 1) = _
    rw [i1]
    refine stepD_store (by show sl20 c e < M.L.length; omega) (nS1 hc ht 0 e) ?_
    unfold fedR; rw [nS1 hc ht 0 e]; rfl
  have i3 : iterD m20 (M, startR 1 c t) 3 = (((M.load (30 + 6 * c)).store (sl20 c e) (t + 1)).store (30 + 6 * c) (e + 1), ⟨1, c, t, 3, 0, e⟩) := by
    show stepD m20 (iterD m20 (M, startR 1 c t) 2) = _
    rw [i2]
    refine stepD_store (by rw [lenQ_store]; show 30 + 6 * c < M.L.length; omega) (nS2 hc ht 0 e h0 h1) ?_
    unfold fedR; rw [nS2 hc ht 0 e h0 h1]; rfl
  have i4 : iterD m20 (M, startR 1 c t) 4 = ((((M.load (30 + 6 * c)).store (sl20 c e) (t + 1)).store (30 + 6 * c) (e + 1)).store (25 + t) 1, ⟨1, c, t, 9, 0, e⟩) := by
    show stepD m20 (iterD m20 (M, startR 1 c t) 3) = _
    rw [i3]
    refine stepD_store (by rw [lenQ_store, lenQ_store]; show 25 + t < M.L.length; omega) (nS3 hc ht 0 e) ?_
    unfold fedR; rw [nS3 hc ht 0 e]; rfl
  refine ⟨_, by rw [i4], by rw [i4]; exact nx_none (nS9 hc ht 0 e), ?_, ?_, ?_⟩
  · intro j hj
    match j, hj with
    | 0, _ => rw [i0, nS0 hc ht 0 0]; simp
    | 1, _ => rw [i1, nS1 hc ht 0 e]; simp
    | 2, _ => rw [i2, nS2 hc ht 0 e h0 h1]; simp
    | 3, _ => rw [i3, nS3 hc ht 0 e]; simp
  · rw [lenQ_store, lenQ_store, lenQ_store]; exact hl
  · intro i
    have l1 : sl20 c e < (M.load (30 + 6 * c)).L.length := by show sl20 c e < M.L.length; omega
    have l2 : 30 + 6 * c < ((M.load (30 + 6 * c)).store (sl20 c e) (t + 1)).L.length := by rw [lenQ_store]; show 30 + 6 * c < M.L.length; omega
    have l3 : 25 + t < (((M.load (30 + 6 * c)).store (sl20 c e) (t + 1)).store (30 + 6 * c) (e + 1)).L.length := by rw [lenQ_store, lenQ_store]; show 25 + t < M.L.length; omega
    rw [wordQ_store l3, wordQ_store l2, wordQ_store l1]
    rfl
/-- one wake at an empty queue -/
theorem wake2 {M : MemS} (hl : M.L.length = 43) {c t : Nat} (hc : c < 2) (ht : t < 4) {k : Int} (hk : k = 2 ∨ k = 3) {e : Int} (hh : M.word (29 + 6 * c) = e) (he : M.word (30 + 6 * c) = e) :
    ∃ M', (iterD m20 (M, startR k c t) 2).1 = M' ∧ (nextA m20 (iterD m20 (M, startR k c t) 2).2).k = 0 ∧ (∀ j, j < 2 → ¬ (nextA m20 (iterD m20 (M, startR k c t) j).2).k = 0) ∧ M'.L = M.L := by
  have hk1 : ¬ k = 1 := by omega
  have i0 : iterD m20 (M, startR k c t) 0 = (M, ⟨k, c, t, 0, 0, 0⟩) := by
    show (M, startR k c t) = _
    unfold startR; rw [if_neg (by omega)]
  have i1 : iterD m20 (M, startR k c t) 1 = (M.load (29 + 6 * c), ⟨k, c, t, 1, e, 0⟩) := by
    show stepD m20 (iterD m20 (M, startR k c t) 0) = _
    rw [i0]
    refine stepD_load (by omega) (nW0 hc ht 0 0 hk) ?_
    unfold fedR; rw [nW0 hc ht 0 0 hk, hh, if_neg (by simp)]; dsimp only; rw [if_neg hk1, if_pos rfl]
  have i2 : iterD m20 (M, startR k c t) 2 = ((M.load (29 + 6 * c)).load (30 + 6 * c), ⟨k, c, t, 9, e, e⟩) := by
    show stepD m20 (iterD m20 (M, startR k c t) 1) = _
    rw [i1]
    refine stepD_load (by show 30 + 6 * c < M.L.length; omega) (nW1 hc ht e 0 hk) ?_
    have hw : (M.load (29 + 6 * c)).word (30 + 6 * c) = e := he
    unfold fedR; rw [nW1 hc ht e 0 hk, hw, if_neg (by simp)]; dsimp only; rw [if_neg hk1, if_neg (by simp), if_pos rfl, if_pos rfl]
  refine ⟨(M.load (29 + 6 * c)).load (30 + 6 * c), by rw [i2], by rw [i2]; exact nx_none (nW9 hc ht e e hk), ?_, rfl⟩
  intro j hj
  match j, hj with
  | 0, _ => rw [i0, nW0 hc ht 0 0 hk]; simp
  | 1, _ => rw [i1, nW1 hc ht e 0 hk]; simp
/-- one wake at a queue that has one -/
theorem wake5 {M : MemS} (hl : M.L.length = 43) {c t : Nat} (hc : c < 2) (ht : t < 4) {h e : Int} (hh : M.word (29 + 6 * c) = h) (he : M.word (30 + 6 * c) = e) (hne : ¬ h = e) (h0 : 0 ≤ h) (h1 : h < 1000) {u : Nat} (hu : u < 4) (hs : M.word (sl20 c h) = u + 1) :
    ∃ M', (iterD m20 (M, startR 2 c t) 5).1 = M' ∧ (nextA m20 (iterD m20 (M, startR 2 c t) 5).2).k = 0 ∧ (∀ j, j < 5 → ¬ (nextA m20 (iterD m20 (M, startR 2 c t) j).2).k = 0) ∧ M'.L.length = 43 ∧
      ∀ i, M'.word i = if i = 29 + 6 * c then h + 1 else if i = 25 + u then 0 else M.word i := by
  have hb := sl20_bd c hc h
  have hk : (2 : Int) = 2 ∨ (2 : Int) = 3 := .inl rfl
  have i0 : iterD m20 (M, startR 2 c t) 0 = (M, ⟨2, c, t, 0, 0, 0⟩) := rfl
  have i1 : iterD m20 (M, startR 2 c t) 1 = (M.load (29 + 6 * c), ⟨2, c, t, 1, h, 0⟩) := by
    show stepD m20 (iterD m20 (M, startR 2 c t) 0) = _
    rw [i0]
    refine stepD_load (by omega) (nW0 hc ht 0 0 hk) ?_
    unfold fedR; rw [nW0 hc ht 0 0 hk, hh]; rfl
  have i2 : iterD m20 (M, startR 2 c t) 2 = ((M.load (29 + 6 * c)).load (30 + 6 * c), ⟨2, c, t, 2, h, e⟩) := by
    show stepD m20 (iterD m20 (M, startR 2 c t) 1) = _
    rw [i1]
    refine stepD_load (by show 30 + 6 * c < M.L.length; omega) (nW1 hc ht h 0 hk) ?_
    have hw : (M.load (29 + 6 * c)).word (30 + 6 * c) = e := he
    unfold fedR; rw [nW1 hc ht h 0 hk, hw, if_neg (by simp)]; dsimp only; rw [if_neg (by decide), if_neg (by decide), if_pos rfl, if_neg hne]
  have i3 : iterD m20 (M, startR 2 c t) 3 = (((M.load (29 + 6 * c)).load (30 + 6 * c)).load (sl20 c h), ⟨2, c, t, 10 + u, h, e⟩) := by
    show stepD m20 (iterD m20 (M, startR 2 c t) 2) = _
    rw [i2]
    refine stepD_load (by show sl20 c h < M.L.length; omega) (nW2 hc ht h e hk) ?_
    have hw : ((M.load (29 + 6 * c)).load (30 + 6 * c)).word (sl20 c h) = u + 1 := hs
    unfold fedR; rw [nW2 hc ht h e hk, hw, if_neg (by simp)]; dsimp only; rw [if_neg (by decide), if_neg (by decide), if_neg (by decide), if_pos rfl, if_pos ⟨by omega, by omega⟩]
    congr 1; omega
  have i4 : iterD m20 (M, startR 2 c t) 4 = ((((M.load (29 + 6 * c)).load (30 + 6 * c)).load (sl20 c h)).store (25 + u) 0, ⟨2, c, t, 8, h, e⟩) := by
    show stepD m20 (iterD m20 (M, startR 2 c t) 3) = _
    rw [i3]
    refine stepD_store (by show 25 + u < M.L.length; omega) (nW10 hc ht h e hk hu) ?_
    unfold fedR; rw [nW10 hc ht h e hk hu, if_neg (by simp)]; dsimp only; rw [if_neg (by decide), if_neg (by omega), if_neg (by omega), if_neg (by omega), if_neg (by omega)]
  have i5 : iterD m20 (M, startR 2 c t) 5 = (((((M.load (29 + 6 * c)).load (30 + 6 * c)).load (sl20 c h)).store (25 + u) 0).store (29 + 6 * c) (h + 1), ⟨2, c, t, 9, h, e⟩) := by
    show stepD m20 (iterD m20 (M, startR 2 c t) 4) = _
    rw [i4]
    refine stepD_store (by rw [lenQ_store]; show 29 + 6 * c < M.L.length; omega) (nW8 hc ht h e hk h0 h1) ?_
    unfold fedR; rw [nW8 hc ht h e hk h0 h1]; rfl
  refine ⟨_, by rw [i5], by rw [i5]; exact nx_none (nW9 hc ht h e hk), ?_, ?_, ?_⟩
  · intro j hj
    match j, hj with
    | 0, _ => rw [i0, nW0 hc ht 0 0 hk]; simp
    | 1, _ => rw [i1, nW1 hc ht h 0 hk]; simp
    | 2, _ => rw [i2, nW2 hc ht h e hk]; simp
    | 3, _ => rw [i3, nW10 hc ht h e hk hu]; simp
    | 4, _ => rw [i4, nW8 hc ht h e hk h0 h1]; simp
  · rw [lenQ_store, lenQ_store]; exact hl
  · intro i
    have l1 : 25 + u < (((M.load (29 + 6 * c)).load (30 + 6 * c)).load (sl20 c h)).L.length := by show 25 + u < M.L.length; omega
    have l2 : 29 + 6 * c < ((((M.load (29 + 6 * c)).load (30 + 6 * c)).load (sl20 c h)).store (25 + u) 0).L.length := by rw [lenQ_store]; show 29 + 6 * c < M.L.length; omega
    rw [wordQ_store l2, wordQ_store l1]
    rfl
end Go.Proofs.Ytodaiogefgdcpaa
